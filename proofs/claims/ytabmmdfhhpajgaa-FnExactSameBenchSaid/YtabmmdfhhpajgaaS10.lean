/- A text of this claim (S10): lemmas for the proof, no conditions of their own. -/
import Derived.Test.YtabmmdfhhpajgaaS9
set_option linter.unusedVariables false
set_option linter.unusedSimpArgs false
namespace Go.Proofs.Ytabmmdfhhpajgaa.Eng
open Go Go.RowKit

/-! ### regions that draw their order -/
/-- The row that an operation which makes a variable makes. -/
def zeroB (T : Ty) (ty : Nat) : Option SB := match T ty with
  | some d => match ofVs d.zero with
    | some cs => newB T ty d cs d.fl
    | none => none
  | none => none
/-- Variables are laid ahead. -/
def preK (T : Ty) : List Oper → List SB → (List Nat → List SB → Prop) → Prop
  | [], S, K => K [] S
  | o :: r, S, K => match o.op with
    | .alloc ty => match zeroB T ty with
      | some x => pushK x S nums fun n S' => preK T r S' fun ns S'' => K (n :: ns) S''
      | none => False
    | _ => preK T r S K
def drS (T : Ty) (Q : Nat → Bool) (E : Env) (k : Nat) (ops : List Oper) : List Oper → List Nat → List SV → List SB → (List (Bool × SV) → List (List SB) → List SV → List SB → Prop) → Prop
  | [], _, t, S, K => K [] [S] t S
  | o :: r, an, t, S, K => wantK ops o t fun q t => match q with
    | true => match isHeapO o with
      | true => stepS T Q E k t S o.op fun v S' => putK t o.dst v fun t' => drS T Q E k ops r an t' S' fun xs hs t S'' => K ((true, v) :: xs) (S :: hs) t S''
      | false => match o.op with
        | .alloc ty => match an with
          | n :: an' => match zeroB T ty with
            | some x => VC (getT S n = some x) ∧ putK t o.dst (.ptr n 0 0) fun t' => drS T Q E k ops r an' t' S fun xs hs t S' => K ((true, .ptr n 0 0) :: xs) hs t S'
            | none => False
          | [] => False
        | op => opS T Q k t S op fun v S' => putK t o.dst v fun t' => drS T Q E k ops r an t' S' fun xs hs t S'' => K ((true, v) :: xs) hs t S''
    | false => match isHeapO o with
      | true => putK t o.dst (.tup []) fun t' => drS T Q E k ops r an t' S fun xs hs t S' => K ((false, .tup []) :: xs) (S :: hs) t S'
      | false => match isAllocO o with
        | true => False
        | false => putK t o.dst (.tup []) fun t' => drS T Q E k ops r an t' S fun xs hs t S' => K ((false, .tup []) :: xs) hs t S'
/-- What may be read at another time reads the same. -/
def rcS (T : Ty) (ops : List Oper) (xs : List (Bool × SV)) (hs : List (List SB)) (t : List SV) : List (Nat × Nat) → Prop
  | [] => True
  | (i, k) :: r => (match getT ops i with
    | none => False
    | some o => match getT xs i with
      | none => False
      | some (q, v) => match getT hs k with
        | none => False
        | some S => match q with
          | false => True
          | true => match o.op with
            | .alloc ty => match v with
              | .ptr n 0 0 => match zeroB T ty with
                | some x => VC (getT S n = some x)
                | none => False
              | _ => False
            | .load ty x => match T ty with
              | some d => evK t x fun a => loadS d S a fun u => VC (u = v)
              | none => False
            | .slice ty x lo hi mx => evK t x fun a => optK t lo fun l => optK t hi fun h => optK t mx fun m => sliceS T ty S a l h m fun u => VC (u = v)
            | _ => False) ∧ rcS T ops xs hs t r
/-- The facts on a region that need no walk. -/
def DrawOk (P : Program) (ops : Array Oper) (rl : List (Nat × Nat)) : Prop := P.follows .mixedOrders = true ∧ drawOk ops = true ∧ rcOk ops rl = true
def drawS (P : Program) (T : Ty) (Q : Nat → Bool) (E : Env) (k : Nat) (rl : List (Nat × Nat)) (ops : Array Oper) (t : List SV) (S : List SB) (K : List SV → List SB → Prop) : Prop :=
  VC (DrawOk P ops rl) ∧ preK T ops.toList S fun ns S => drS T Q E k ops.toList ops.toList ns t S fun xs hs t S => rcS T ops.toList xs hs t rl ∧ K t S

section
variable {P : Program} {T : Ty} {Q : Nat → Bool} {E : Env} {k B : Nat} {H0 : Heap} {ρ0 ρ ρ' : Nm} {t t2 : List SV} {S S' : List SB} {t' : List Value} {H H' : Heap} {o : Oper} {R : SQ}

theorem zeroB_ok (hT : TabOk P T Q) {ty : Nat} {x : SB} (h : zeroB T ty = some x) : ∃ d w, tyOf P ty = some d ∧ isGone x = false ∧ (∀ ρ, BR ρ x w ⟨d.zero, 0, true, d.fl⟩) ∧ ∀ ρ w' kb, BR ρ x w' kb → kb = ⟨d.zero, 0, true, d.fl⟩ := by
  unfold zeroB at h
  split at h
  · rename_i d hd
    split at h
    · rename_i cs hcs
      obtain ⟨w, h1, h2⟩ := newB_ok (ρ := fun _ => none) (ofVs_ok hcs).1 h
      refine ⟨d, w, hT.1 _ _ hd, h1, fun ρ => h2 ρ fun b p e => by simp at e, fun ρ w' kb hk => ?_⟩
      have h3 := h2 ρ fun b p e => by simp at e
      obtain ⟨c, s, wr, fl⟩ := kb
      cases x with
      | gone => simp [isGone] at h1
      | box cs' wr' fl' =>
        have hw : wr' = true := by
          unfold newB at h
          repeat' split at h
          all_goals first | (simp at h; done) | (simp only [Option.some.injEq, SB.box.injEq] at h; exact h.2.1.symm)
        have e1 := LDR.fun2 hk.1 h3.1
        simp only at e1
        obtain ⟨_, e2, e3, e4⟩ := hk
        simp only at e2 e3 e4
        have e5 := h3.2.2.2
        simp only at e5
        subst e1; subst e2; subst e4; subst e5
        simp [e3 hw]
      | arrO e l sz =>
        unfold newB at h
        repeat' split at h
        all_goals simp at h
      | arr e l sz wr' =>
        have hw : wr' = true := by
          unfold newB at h
          repeat' split at h
          all_goals first | (simp at h; done) | (simp only [Option.some.injEq, SB.arr.injEq] at h; exact h.2.2.2.symm)
        have e1 := LDR.fun2 hk.2.2.2.2 h3.2.2.2.2
        have e2 := hk.2.1
        have e6 := h3.2.1
        have e4 := hk.2.2.2.1
        have e5 := h3.2.2.2.1
        have e3 := hk.2.2.1 hw
        simp only at e1 e2 e3 e4 e5 e6
        subst e1; subst e3; subst e4
        rw [e2, ← e6, ← e5]
    · simp at h
  · simp at h
theorem preK_ok (hT : TabOk P T Q) : ∀ {l : List Oper} {S : List SB} {H : Heap} {ρ : Nm} {K : List Nat → List SB → Prop}, Den ρ S H → Dom ρ S H → preK T l S K →
    ∃ ns S1 pre ρ1, K ns S1 ∧ Step ρ S H ρ1 S1 (H ++ pre) ∧ pre.length = cl isAllocO l l.length ∧ ns.length = pre.length ∧ pre.all (fun b => match b with | some b => b.cells.all flatV | none => true) = true ∧ ∀ (j n : Nat), ns[j]? = some n → ∃ w, ρ1 n = some (H.length + j, w)
  | [], S, H, ρ, K, hD, hd, h => ⟨[], S, [], ρ, h, by rw [List.append_nil]; exact .refl hD hd, rfl, rfl, rfl, fun j n e => by simp at e⟩
  | o :: r, S, H, ρ, K, hD, hd, h => by
    simp only [preK] at h
    split at h
    · rename_i ty hop
      split at h
      · rename_i x hx
        obtain ⟨d, w, hty, hg, hb, _⟩ := zeroB_ok hT hx
        obtain ⟨ρ', S', h, h2, h3⟩ := push_ok (w := w) (k := ⟨d.zero, 0, true, d.fl⟩) hD hd (fun ρ' _ => hb ρ') h
        obtain ⟨ns, S1, pre, ρ1, g1, g2, g3, g4, g5, g6⟩ := preK_ok hT h3.den h3.dom h
        refine ⟨S.length :: ns, S1, some ⟨d.zero, 0, true, d.fl⟩ :: pre, ρ1, g1, ?_, ?_, by simp [g4], ?_, fun j n e => ?_⟩
        · have := h3.trans g2
          rwa [List.append_assoc] at this
        · simp [cl, isAllocO, hop, g3]; omega
        · simp only [List.all_cons, g5, Bool.and_true]; exact (tyOf_ok P _ _ hty).zflat
        · cases j with
          | zero => simp at e; subst e; exact ⟨w, g2.le _ _ h2⟩
          | succ j => obtain ⟨w', e'⟩ := g6 j n (by simpa using e); exact ⟨w', by rw [e']; simp; omega⟩
      · exact h.elim
    · rename_i hne
      obtain ⟨ns, S1, pre, ρ1, g1, g2, g3, g4⟩ := preK_ok hT hD hd h
      refine ⟨ns, S1, pre, ρ1, g1, g2, ?_, g4⟩
      have : isAllocO o = false := by
        unfold isAllocO
        split
        · rename_i e he; exact absurd he (hne e)
        · rfl
      simp [cl, this, g3]
theorem read_same {o : Oper} {v : Value} (h1 : isHeapO o = false) (h2 : isAllocO o = false) (h : opA (tyOf P) (eqOf P) B t' H o = some (v, H')) : H' = H := by
  by_cases hp : isPure o = true
  · exact (opA_pure hp h).1
  · have hp : isPure o = false := by simpa using hp
    have hr : isReadO o = true := by simpa [isHeapO, hp, h2] using h1
    obtain ⟨dst, op, ty0, pos, after, guard⟩ := o
    unfold isReadO at hr
    simp only at hr
    split at hr
    · simp only [opA] at h
      split at h
      · simp only [Option.map_eq_some_iff] at h
        obtain ⟨u, _, e⟩ := h
        exact (Prod.mk.inj e).2.symm
      · simp at h
    · simp only [opA] at h
      split at h
      · rename_i hv1 hv2 hv3 hv4
        simp only [Option.map_eq_some_iff] at h
        obtain ⟨u, _, e⟩ := h
        exact (Prod.mk.inj e).2.symm
      · simp at h
    · simp at hr
/-- What is told of a list of heaps, and of answers. -/
def HsR (ρ : Nm) (hs : List (List SB)) (hs' : List Heap) : Prop := hs.length = hs'.length ∧ ∀ (j : Nat) S H, hs[j]? = some S → hs'[j]? = some H → Den ρ S H
def XsR (ρ : Nm) (xs : List (Bool × SV)) (xs' : List (Bool × Value)) : Prop := xs.length = xs'.length ∧ ∀ (j : Nat) x x', xs[j]? = some x → xs'[j]? = some x' → x.1 = x'.1 ∧ DR ρ x.2 x'.2
theorem Den.mono2 {ρ1 : Nm} (hD : Den ρ S H) (hm : NLe ρ ρ1) (hi : ∀ (b b' id w w' : Nat), ρ1 b = some (id, w) → ρ1 b' = some (id, w') → b = b') : Den ρ1 S H := by
  refine ⟨fun b x hb hg => ?_, hi⟩
  obtain ⟨id, w, k, h1, h2, h3⟩ := hD.blk b x hb hg
  exact ⟨id, w, k, hm _ _ h1, h2, h3.mono hm⟩
theorem XsR.cons {x : Bool × SV} {x' : Bool × Value} {xs xs'} (h : x.1 = x'.1 ∧ DR ρ x.2 x'.2) (k : XsR ρ xs xs') : XsR ρ (x :: xs) (x' :: xs') := by
  refine ⟨by simp [k.1], fun j y y' e1 e2 => ?_⟩
  cases j with
  | zero => simp at e1 e2; subst e1; subst e2; exact h
  | succ j => exact k.2 j y y' (by simpa using e1) (by simpa using e2)
theorem HsR.cons {hs hs'} (h : Den ρ S H) (k : HsR ρ hs hs') : HsR ρ (S :: hs) (H :: hs') := by
  refine ⟨by simp [k.1], fun j y y' e1 e2 => ?_⟩
  cases j with
  | zero => simp at e1 e2; subst e1; subst e2; exact h
  | succ j => exact k.2 j y y' (by simpa using e1) (by simpa using e2)

theorem drS_ok (hT : TabOk P T Q) (hE : EnvOk P E) {ops : Array Oper} {base : Nat} : ∀ {l : List Oper} {an : List Nat} {nal : Nat} {t : List SV} {S : List SB} {ρ : Nm} {t' : List Value} {H : Heap} {K : List (Bool × SV) → List (List SB) → List SV → List SB → Prop},
    At k H0 ρ0 ρ t S t' H → (∀ (j n : Nat), an[j]? = some n → ∃ w, ρ n = some (base + (nal + j), w)) → drS T Q E k ops.toList l an t S K →
    ∃ xs' hs' tf Hf, DX P H0.length ops base nal l t' H xs' hs' tf Hf ∧ ∃ xs hs t2 S2 ρ2, K xs hs t2 S2 ∧ At k H0 ρ0 ρ2 t2 S2 tf Hf ∧ NLe ρ ρ2 ∧ XsR ρ2 xs xs' ∧ HsR ρ2 hs hs'
  | [], an, nal, t, S, ρ, t', H, K, hA, _, h => ⟨[], [H], t', H, ⟨rfl, rfl, rfl, rfl⟩, [], [S], t, S, ρ, h, hA, .refl _, ⟨rfl, fun j x x' e => by simp at e⟩, HsR.cons hA.den ⟨rfl, fun j x x' e => by simp at e⟩⟩
  | o :: r, an, nal, t, S, ρ, t', H, K, hA, han, h => by
    simp only [drS] at h
    obtain ⟨q, hq, h⟩ := wantK_ok hA.ts h
    cases q with
    | true =>
      simp only at h
      cases hh : isHeapO o with
      | true =>
        simp only [hh] at h
        have ha : isAllocO o = false := by
          cases ha : isAllocO o with
          | false => rfl
          | true => simp [isHeapO, ha] at hh
        obtain ⟨v, v', S1, H1, ρ1, h, k2, k3, k4⟩ := stepS_ok hT hE hA h
        obtain ⟨t1, h, hp⟩ := putK_ok h
        have hA1 := hA.step k4 (hp (hA.ts.mono k4.le) (.inr k3))
        obtain ⟨xs', hs', tf, Hf, g1, xs, hs, t2, S2, ρ2, g2, g3, g4, g5, g6⟩ := drS_ok hT hE hA1 (fun j n e => by obtain ⟨w, hw⟩ := han j n e; exact ⟨w, k4.le _ _ hw⟩) h
        refine ⟨(true, v') :: xs', H :: hs', tf, Hf, ⟨true, v', xs', rfl, hq, fun e => by simp at e, ?_⟩, (true, v) :: xs, S :: hs, t2, S2, ρ2, g2, g3, k4.le.trans g4, XsR.cons ⟨rfl, k3.ren g4⟩ g5, HsR.cons (hA.den.mono2 (k4.le.trans g4) g3.den.inj) g6⟩
        rw [if_pos hh]
        exact ⟨H1, hs', rfl, by simpa using k2, g1⟩
      | false =>
        simp only [hh] at h
        split at h
        · rename_i ty hop
          have ha : isAllocO o = true := by simp [isAllocO, hop]
          cases an with
          | nil => exact h.elim
          | cons n an' =>
            simp only at h
            split at h
            · rename_i x hx
              obtain ⟨⟨hz⟩, h⟩ := h
              obtain ⟨d, w0, hty, hgx, _, hall⟩ := zeroB_ok hT hx
              obtain ⟨w, hw⟩ := han 0 n rfl
              have hw : ρ n = some (base + nal, w) := by simpa using hw
              have hD := hA.den.get hz hgx hw
              obtain ⟨kb, hkb, hbr⟩ := hD
              have := hall _ _ _ hbr
              subst this
              obtain ⟨t1, h, hp⟩ := putK_ok h
              have hv : DR ρ (.ptr n 0 0) (.pointer (some ⟨base + nal, 0, none⟩)) := ptr0 hw
              have hA1 := hA.frame (hp hA.ts (.inr hv))
              obtain ⟨xs', hs', tf, Hf, g1, xs, hs, t2, S2, ρ2, g2, g3, g4, g5, g6⟩ := drS_ok hT hE (nal := nal + 1) hA1 (fun j m e => by obtain ⟨w, hw⟩ := han (j + 1) m (by simpa using e); exact ⟨w, by rw [hw, show nal + (j + 1) = nal + 1 + j by omega]⟩) h
              refine ⟨(true, .pointer (some ⟨base + nal, 0, none⟩)) :: xs', hs', tf, Hf, ⟨true, _, xs', rfl, hq, fun e => by simp at e, ?_⟩, (true, .ptr n 0 0) :: xs, hs, t2, S2, ρ2, g2, g3, g4, XsR.cons ⟨rfl, hv.ren g4⟩ g5, g6⟩
              rw [if_neg (by simp [hh])]
              refine ⟨fun _ => ?_, by simpa [ha] using g1⟩
              unfold ReadP
              rw [hop]
              exact ⟨d, hty, rfl, hkb⟩
            · exact h.elim
        · rename_i hne
          have ha : isAllocO o = false := by
            unfold isAllocO
            split
            · rename_i e he; exact absurd he (hne e)
            · rfl
          obtain ⟨v, v', S1, H1, ρ1, h, k2, k3, k4⟩ := opS_sound (o := o) hT hA.den hA.dom hA.ts hA.new h
          have := read_same hh ha k2
          subst this
          obtain ⟨t1, h, hp⟩ := putK_ok h
          have hA1 := hA.step k4 (hp (hA.ts.mono k4.le) (.inr k3))
          obtain ⟨xs', hs', tf, Hf, g1, xs, hs, t2, S2, ρ2, g2, g3, g4, g5, g6⟩ := drS_ok hT hE (nal := nal) hA1 (fun j n e => by obtain ⟨w, hw⟩ := han j n e; exact ⟨w, k4.le _ _ hw⟩) h
          refine ⟨(true, v') :: xs', hs', tf, Hf, ⟨true, v', xs', rfl, hq, fun e => by simp at e, ?_⟩, (true, v) :: xs, hs, t2, S2, ρ2, g2, g3, k4.le.trans g4, XsR.cons ⟨rfl, k3.ren g4⟩ g5, g6⟩
          rw [if_neg (by simp [hh])]
          refine ⟨fun _ => ?_, by simpa [ha] using g1⟩
          unfold ReadP
          split
          · rename_i e he; exact absurd he (hne e)
          · exact k2
    | false =>
      simp only at h
      cases hh : isHeapO o with
      | true =>
        simp only [hh] at h
        obtain ⟨t1, h, hp⟩ := putK_ok h
        have hA1 := hA.frame (hp hA.ts (.inr (undef_dr ρ)))
        obtain ⟨xs', hs', tf, Hf, g1, xs, hs, t2, S2, ρ2, g2, g3, g4, g5, g6⟩ := drS_ok hT hE hA1 han h
        refine ⟨(false, undef) :: xs', H :: hs', tf, Hf, ⟨false, undef, xs', rfl, hq, fun _ => rfl, ?_⟩, (false, .tup []) :: xs, S :: hs, t2, S2, ρ2, g2, g3, g4, XsR.cons ⟨rfl, undef_dr _⟩ g5, HsR.cons (hA.den.mono2 g4 g3.den.inj) g6⟩
        rw [if_pos hh]
        exact ⟨H, hs', rfl, by simp, g1⟩
      | false =>
        simp only [hh] at h
        cases ha : isAllocO o with
        | true => simp only [ha] at h
        | false =>
          simp only [ha] at h
          obtain ⟨t1, h, hp⟩ := putK_ok h
          have hA1 := hA.frame (hp hA.ts (.inr (undef_dr ρ)))
          obtain ⟨xs', hs', tf, Hf, g1, xs, hs, t2, S2, ρ2, g2, g3, g4, g5, g6⟩ := drS_ok hT hE hA1 han h
          refine ⟨(false, undef) :: xs', hs', tf, Hf, ⟨false, undef, xs', rfl, hq, fun _ => rfl, ?_⟩, (false, .tup []) :: xs, hs, t2, S2, ρ2, g2, g3, g4, XsR.cons ⟨rfl, undef_dr _⟩ g5, g6⟩
          rw [if_neg (by simp [hh])]
          exact ⟨fun e => by simp at e, by simpa [ha] using g1⟩
theorem rcS_ok (hT : TabOk P T Q) {ops : Array Oper} {base : Nat} {xs : List (Bool × SV)} {xs' : List (Bool × Value)} {hs : List (List SB)} {hs' : List Heap} (ht : TSD ρ t t') (hx : XsR ρ xs xs') (hh : HsR ρ hs hs')
    (hal : ∀ (i : Nat) (o : Oper) (v : Value), ops[i]? = some o → isAllocO o = true → xs'[i]? = some (true, v) → v = .pointer (some ⟨base + cl isAllocO ops.toList i, 0, none⟩)) :
    ∀ {rl : List (Nat × Nat)}, rcS T ops.toList xs hs t rl → RC P B ops base xs' hs' t' rl
  | [], _ => trivial
  | (i, k) :: r, h => by
    simp only [rcS, getT_eq, Array.getElem?_toList] at h
    obtain ⟨h, hr⟩ := h
    refine ⟨?_, rcS_ok hT ht hx hh hal hr⟩
    split at h
    · exact h.elim
    · rename_i o ho
      split at h
      · exact h.elim
      · rename_i q v hxi
        split at h
        · exact h.elim
        · rename_i S hS
          have hi : i < xs'.length := by rw [← hx.1]; exact (List.getElem?_eq_some_iff.1 hxi).1
          have hk : k < hs'.length := by rw [← hh.1]; exact (List.getElem?_eq_some_iff.1 hS).1
          obtain ⟨e1, e2⟩ := hx.2 i (q, v) xs'[i] hxi (by simp [hi])
          have hDen := hh.2 k S hs'[k] hS (by simp [hk])
          refine ⟨o, xs'[i].1, xs'[i].2, hs'[k], ho, by simp [hi], by simp [hk], fun hq => ?_⟩
          simp only at e1 e2
          rw [e1, hq] at h
          simp only at h
          split at h
          · rename_i ty hop
            split at h
            · rename_i n
              split at h
              · rename_i x hx0
                obtain ⟨hz⟩ := h
                obtain ⟨d, w0, hty, hgx, _, hall⟩ := zeroB_ok hT hx0
                unfold ReadP
                rw [hop]
                have hv := hal i o xs'[i].2 ho (by simp [isAllocO, hop]) (by rw [← hq]; simp [hi])
                refine ⟨d, hty, hv, ?_⟩
                rw [hv] at e2
                generalize hid : base + cl isAllocO ops.toList i = id at e2
                have e3 : ∃ w, ρ n = some (id, w) := by
                  generalize hvv : Value.pointer (some ⟨id, 0, none⟩) = vv at e2
                  cases e2 with
                  | ptr _ _ _ id' w hb =>
                    simp at hvv
                    exact ⟨w, by rw [hvv]; exact hb⟩
                obtain ⟨w, hw⟩ := e3
                obtain ⟨kb, h1, h2⟩ := hDen.get (by rw [getT_eq]; exact hz) hgx hw
                rw [h1, hall _ _ _ h2]
              · exact h.elim
            · exact h.elim
          · rename_i ty x hop
            split at h
            · rename_i d hty
              obtain ⟨a, a', h, g2, g3⟩ := evK_ok ht h
              obtain ⟨u, u', ⟨h⟩, f2, f3⟩ := loadS_ok (P := P) hDen (hT.1 _ _ hty) g3 h
              subst h
              unfold ReadP
              rw [hop]
              simp only [opA, hop, g2, f2]
              rw [f3.fun e2]; rfl
            · exact h.elim
          · rename_i ty x lo hi mx hop
            obtain ⟨a, a', h, g2, g3⟩ := evK_ok ht h
            obtain ⟨l1, h, e4⟩ := optK_ok ht h
            obtain ⟨l2, h, e5⟩ := optK_ok ht h
            obtain ⟨l3, h, e6⟩ := optK_ok ht h
            obtain ⟨u, u', ⟨h⟩, f2, f3⟩ := sliceS_ok hT hDen g3 h
            subst h
            unfold ReadP
            rw [hop]
            simp only [opA, hop, g2, e4, e5, e6, f2]
            rw [f3.fun e2]; rfl
          · exact h.elim
theorem DX_alloc {ops : Array Oper} {base : Nat} : ∀ {l : List Oper} {nal : Nat} {t : List Value} {H : Heap} {xs hs tf Hf}, DX P B ops base nal l t H xs hs tf Hf → ∀ (i : Nat) (o : Oper) (v : Value), l[i]? = some o → isAllocO o = true → xs[i]? = some (true, v) → v = .pointer (some ⟨base + (nal + cl isAllocO l i), 0, none⟩)
  | [], _, _, _, _, _, _, _, _, i, o, v, h, _, _ => by simp at h
  | o :: r, nal, t, H, xs, hs, tf, Hf, h, i, o', v, ho, ha, hx => by
    obtain ⟨q, v0, xs', rfl, hw, hu, h⟩ := h
    cases i with
    | zero =>
      simp at ho hx; subst ho
      obtain ⟨rfl, rfl⟩ := hx
      rw [if_neg (by simp [isHeapO, ha])] at h
      have := h.1 rfl
      unfold ReadP at this
      split at this
      · obtain ⟨d, _, e, _⟩ := this; simpa [cl] using e
      · rename_i hne
        unfold isAllocO at ha
        split at ha
        · rename_i e he; exact absurd he (hne e)
        · simp at ha
    | succ i =>
      simp only [List.getElem?_cons_succ] at ho hx
      split at h
      · rename_i hh
        obtain ⟨H', hs', rfl, _, h⟩ := h
        have ha0 : isAllocO o = false := by
          cases ha : isAllocO o with
          | false => rfl
          | true => simp [isHeapO, ha] at hh
        have := DX_alloc h i o' v ho ha hx
        simpa [cl, ha0] using this
      · have := DX_alloc h.2 i o' v ho ha hx
        rw [this]
        simp only [cl]
        congr 3
        split <;> omega
theorem X_draw (hT : TabOk P T Q) (hE : EnvOk P E) {id : Nat} {ops : Array Oper} {rl : List (Nat × Nat)} (h : drawS P T Q E k rl ops t S (fun t S => R .normal t S)) : X P k (.region id ops true) t S R := fun H0 ρ0 ρ t' H hA => by
  obtain ⟨⟨hm, hok, hrl⟩, h⟩ := h
  obtain ⟨ns, S1, pre, ρ1, h, p2, p3, p4, p5, p6⟩ := preK_ok hT hA.den hA.dom h
  have hA1 := hA.step p2 (hA.ts.mono p2.le)
  obtain ⟨xs', hs', tf, Hf, g1, xs, hs, t2, S2, ρ2, ⟨hrc, g2⟩, g3, g4, g5, g6⟩ := drS_ok (base := H.length) hT hE (nal := 0) hA1 (fun j n e => by obtain ⟨w, hw⟩ := p6 j n e; exact ⟨w, by rw [hw, Nat.zero_add]⟩) h
  have hal : ∀ (i : Nat) (o : Oper) (v : Value), ops[i]? = some o → isAllocO o = true → xs'[i]? = some (true, v) → v = .pointer (some ⟨H.length + cl isAllocO ops.toList i, 0, none⟩) := fun i o v ho ha hx => by
    have := DX_alloc g1 i o v (by rw [Array.getElem?_toList]; exact ho) ha hx
    rwa [Nat.zero_add] at this
  refine ⟨.normal, tf, Hf, Ex_dr hm rl hok hrl p3 p5 rfl g1 (rcS_ok hT g3.ts g5 g6 hal hrc) ⟨rfl, rfl, rfl⟩, t2, S2, ρ2, g2, g3⟩
end
end Go.Proofs.Ytabmmdfhhpajgaa.Eng
