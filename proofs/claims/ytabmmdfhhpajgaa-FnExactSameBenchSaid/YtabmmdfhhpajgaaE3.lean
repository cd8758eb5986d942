/- A text of this claim (E3): lemmas for the proof, no conditions of their own. -/
import Derived.Test.YtabmmdfhhpajgaaE2
import Derived.Laws.Entries
set_option linter.unusedVariables false
set_option linter.unusedSimpArgs false
namespace Go.Proofs.Ytabmmdfhhpajgaa.Eng
open Go Go.RowKit

/-- What is known of a type. -/
structure TyD where
  und : TypeDesc
  size : Nat
  bytes : Nat
  zero : List Value
  fl : Bool
abbrev Ty := Nat → Option TyD
def aggD : TypeDesc → Bool | .struct _ | .array _ _ => true | _ => false
structure TyOk1 (P : Program) (t : Nat) (d : TyD) : Prop where
  und : P.underlying t = some d.und
  info : ∃ i v, P.info? t = some i ∧ i.size = d.size ∧ i.bytes = d.bytes ∧ i.zero = some v ∧ v.cells.toList = d.zero
  zlen : d.zero.length = d.size
  zflat : d.zero.all flatV = true
def TyOk (P : Program) (T : Ty) : Prop := ∀ t d, T t = some d → TyOk1 P t d

def cellsL : Value → List Value | .agg cs => cs.toList | v => [v]
theorem cellsL_eq (v : Value) : cellsL v = v.cells.toList := by cases v <;> rfl
theorem cells_rel {ι : Ren} {v v' : Value} (h : VRel ι v v') : LRel ι (cellsL v) (cellsL v') := by
  cases h <;> first | exact .cons (by constructor <;> assumption) (.nil ι) | skip
  case agg xs ys hl h => exact ⟨hl, h⟩

/-! ### operands -/
def ev (t : List Value) : Operand → Option Value
  | .tmp i => t[i]?
  | .const v => if flatV v = true then some v else none
  | .func f => some (.func (.func f) #[] #[])
  | .global _ => none
def evL (t : List Value) (x : Operand) : Option Value := match ev t x with | some v => if isDead v = true then none else some v | none => none
def TS (ι : Ren) (t : List Value) (tm : Array Value) : Prop := t.length = tm.size ∧ ∀ (i : Nat) (v v' : Value), t[i]? = some v → tm[i]? = some v' → TRel ι v v'
theorem TS.mono {ι ι' : Ren} (hm : ∀ id L, ι id = some L → ι' id = some L) {t : List Value} {tm : Array Value} (h : TS ι t tm) : TS ι' t tm := ⟨h.1, fun i v v' a b => (h.2 i v v' a b).mono hm⟩
theorem TS.put {ι : Ren} {t : List Value} {a : Act} (h : TS ι t a.tmps) (d : Option Tmp) {v v' : Value} (hv : TRel ι v v') : TS ι (match d with | some i => t.set i v | none => t) (a.put d v').tmps := by
  cases d with
  | none => exact h
  | some i =>
    refine ⟨by simp [Act.put, h.1], fun j u u' h1 h2 => ?_⟩
    simp only [Act.put, Array.getElem?_setIfInBounds] at h2
    rw [List.getElem?_set] at h1
    by_cases e : i = j
    · subst e; simp only [if_true] at h1 h2
      split at h1 <;> split at h2 <;> simp_all
    · simp only [e, if_false] at h1 h2; exact h.2 j u u' h1 h2
theorem ev_rel {ι : Ren} {t : List Value} {a : Act} (h : TS ι t a.tmps) {x : Operand} {v : Value} (hv : ev t x = some v) : TRel ι v (a.eval x) := by
  cases x with
  | tmp i =>
    simp only [ev] at hv
    have hlt : i < a.tmps.size := by
      have h1 : i < t.length := (List.getElem?_eq_some_iff.1 hv).1
      have h2 : t.length = a.tmps.size := h.1
      exact Nat.lt_of_lt_of_eq h1 h2
    have := h.2 i v a.tmps[i] hv (by simp [hlt])
    simp only [Act.eval, Array.getD_eq_getD_getElem?, Array.getElem?_eq_getElem hlt, Option.getD_some]; exact this
  | const c => simp only [ev] at hv; split at hv <;> simp at hv; subst hv; exact .inr (.flat (by assumption))
  | func f => simp only [ev] at hv; obtain rfl := Option.some.inj hv; exact .inr (.func f [] [] rfl (fun i v v' h => by simp at h))
  | global g => simp [ev] at hv
theorem evL_rel {ι : Ren} {t : List Value} {a : Act} (h : TS ι t a.tmps) {x : Operand} {v : Value} (hv : evL t x = some v) : VRel ι v (a.eval x) := by
  unfold evL at hv
  split at hv
  · rename_i u hu
    split at hv
    · simp at hv
    · rename_i hd; obtain rfl := Option.some.inj hv
      exact (ev_rel h hu).live (by simpa using hd)
  · simp at hv

/-! ### what a step gives -/
def StepOk (w0 : World) (ι : Ren) (B : Nat) (H : Heap) (r : Result Next) (v : Value) (H' : Heap) : Prop :=
  ∃ nx v' w' ι', r = .ok nx w' ∧ (nx = .value v' ∨ (nx = .skip ∧ v' = undef)) ∧ HRel w0 ι' H' w' ∧ TRel ι' v v' ∧ Ext H.length ι ι' ∧ OCs B H H' ∧ H.length ≤ H'.length
theorem StepOk.pure {w0 w : World} {ι : Ren} {B : Nat} {H : Heap} (hH : HRel w0 ι H w) {r : Result Next} {v v' : Value} (h : r = .ok (.value v') w) (hv : TRel ι v v') : StepOk w0 ι B H r v H :=
  ⟨_, v', w, ι, h, .inl rfl, hH, hv, .refl _ _, .refl _ _, Nat.le_refl _⟩

section
variable {P : Program} {T : Ty} {w : World}
theorem TyOk.sizeOf (hT : TyOk P T) {t : Nat} {d : TyD} (h : T t = some d) : (sizeOf t).run P w = .ok d.size w := by
  obtain ⟨i, v, h1, h2, _⟩ := (hT t d h).info
  simp [Go.sizeOf, typeInfo, h1, h2]
theorem TyOk.underlying (hT : TyOk P T) {t : Nat} {d : TyD} (h : T t = some d) : (underlying t).run P w = .ok d.und w := run_underlying (hT t d h).und w
theorem TyOk.zeroValue (hT : TyOk P T) {t : Nat} {d : TyD} (h : T t = some d) : ∃ v, (zeroValue t).run P w = .ok v w ∧ v.cells.toList = d.zero := by
  obtain ⟨i, v, h1, h2, h3, h4, h5⟩ := (hT t d h).info
  exact ⟨v, by simp [Go.zeroValue, typeInfo, h1, h4], h5⟩
theorem TyOk.isAgg (hT : TyOk P T) {t : Nat} {d : TyD} (h : T t = some d) : (isAgg t).run P w = .ok (aggD d.und) w := by
  unfold Go.isAgg
  rw [Sem.run_bind, hT.underlying h]
  cases d.und <;> rfl
theorem TyOk.bytes (hT : TyOk P T) {t : Nat} {d : TyD} (h : T t = some d) : ∃ i, (typeInfo t).run P w = .ok i w ∧ i.bytes = d.bytes ∧ i.size = d.size := by
  obtain ⟨i, v, h1, h2, h3, _⟩ := (hT t d h).info
  exact ⟨i, by simp [typeInfo, h1], h3, h2⟩
end

/-! ### parts of a struct -/
def fillL (place : Nat → Option (Nat × Nat)) (cells : List Value) : List (Nat × Value) → Option (List Value)
  | [] => some cells
  | (i, v) :: rest =>
    match place i with
    | none => none
    | some (off, size) => if (cellsL v).length ≠ size ∨ off + (cellsL v).length > cells.length then none else fillL place (splice cells off (cellsL v)) rest
theorem foldl_set (vs : List Value) : ∀ (cells : Array Value) (off k : Nat), off + k + vs.length ≤ cells.size →
    ((vs.zipIdx k).foldl (fun (cs : Array Value) (p : Value × Nat) => cs.setIfInBounds (off + p.2) p.1) cells).toList = splice cells.toList (off + k) vs := by
  induction vs with
  | nil => intro cells off k h; simp [splice]
  | cons v vs ih =>
    intro cells off k h
    simp only [List.zipIdx_cons, List.foldl_cons, List.length_cons] at h ⊢
    rw [show k + 1 = 1 + k by omega] at *
    rw [ih _ off (1 + k) (by simp; omega)]
    simp only [splice, Array.toList_setIfInBounds, List.length_cons]
    apply List.ext_getElem?
    intro j
    simp only [List.getElem?_append, List.getElem?_take, List.getElem?_drop, List.getElem?_set, List.length_append, List.length_take, List.length_set, Array.length_toList, List.getElem?_cons]
    by_cases h1 : j < off + k
    · simp [h1, show j < off + (1 + k) by omega, show j < min (off + k) cells.size by omega, show j < min (off + (1 + k)) cells.size by omega, show j < min (off + (1 + k)) cells.size + vs.length by omega, show j < min (off + k) cells.size + (vs.length + 1) by omega, show ¬ off + k = j by omega]
    · by_cases h2 : j = off + k
      · subst h2
        simp [show min (off + k) cells.size = off + k by omega, show min (off + (1 + k)) cells.size = off + k + 1 by omega, show off + k < cells.size by omega, show off + k < off + (1 + k) by omega, show off + k < off + k + 1 + vs.length by omega]
      · by_cases h3 : j < off + k + 1 + vs.length
        · simp only [show min (off + k) cells.size = off + k by omega, show min (off + (1 + k)) cells.size = off + k + 1 by omega]
          simp [h1, show ¬ j < off + k + 1 by omega, show j < off + k + 1 + vs.length by omega, show j < off + k + (vs.length + 1) by omega, show ¬ j - (off + k) = 0 by omega, show j - (off + k) - 1 = j - (off + k + 1) by omega]
        · simp only [show min (off + k) cells.size = off + k by omega, show min (off + (1 + k)) cells.size = off + k + 1 by omega]
          simp [show ¬ j < off + k + 1 + vs.length by omega, show ¬ j < off + k + (vs.length + 1) by omega, show off + k + (vs.length + 1) + (j - (off + k + (vs.length + 1))) = j by omega, show off + (1 + k) + vs.length + (j - (off + k + 1 + vs.length)) = j by omega, show ¬ off + k = j by omega]
theorem fill_eq (place : Nat → Option (Nat × Nat)) : ∀ (parts : List (Nat × Value)) (cells : Array Value), Instr.fill place cells parts = (fillL place cells.toList parts).map List.toArray
  | [], cells => by simp [Instr.fill, fillL]
  | (i, v) :: rest, cells => by
    simp only [Instr.fill, fillL]
    cases hp : place i with
    | none => rfl
    | some q =>
      obtain ⟨off, size⟩ := q
      simp only [cellsL_eq, Array.length_toList]
      by_cases hc : v.cells.size ≠ size ∨ off + v.cells.size > cells.size
      · have : (v.cells.size ≠ size || off + v.cells.size > cells.size) = true := by simpa using hc
        simp [this, hc]
      · have : (v.cells.size ≠ size || off + v.cells.size > cells.size) = false := by simpa using hc
        rw [if_neg hc]
        simp only [this, Bool.false_eq_true, if_false]
        rw [fill_eq place rest]
        have e := foldl_set v.cells.toList cells off 0 (by simp at hc ⊢; omega)
        congr 2
        rw [← Array.foldl_toList, Array.toList_zipIdx]
        simpa using e
theorem LRel.splice {ι : Ren} {xs ys us vs : List Value} (h : LRel ι xs ys) (k : LRel ι us vs) (o : Nat) : LRel ι (Eng.splice xs o us) (Eng.splice ys o vs) := by
  unfold Eng.splice
  rw [k.1]
  exact ((h.take o).append k).append (h.drop _)
theorem fillL_rel {ι : Ren} (place : Nat → Option (Nat × Nat)) : ∀ (parts parts' : List (Nat × Value)) (cs cs' r : List Value), LRel ι cs cs' → parts.length = parts'.length →
    (∀ (j : Nat) p p', parts[j]? = some p → parts'[j]? = some p' → p.1 = p'.1 ∧ VRel ι p.2 p'.2) → fillL place cs parts = some r → ∃ r', fillL place cs' parts' = some r' ∧ LRel ι r r'
  | [], parts', cs, cs', r, hc, hl, _, h => by
    cases parts' with
    | nil => simp only [fillL, Option.some.injEq] at h ⊢; subst h; exact ⟨cs', rfl, hc⟩
    | cons _ _ => simp at hl
  | (i, v) :: rest, parts', cs, cs', r, hc, hl, hp, h => by
    cases parts' with
    | nil => simp at hl
    | cons p' rest' =>
      obtain ⟨i', v'⟩ := p'
      obtain ⟨e1, e2⟩ := hp 0 (i, v) (i', v') (by simp) (by simp)
      simp only at e1 e2; subst e1
      simp only [fillL] at h ⊢
      have hcl := (cells_rel e2).1
      cases hpl : place i with
      | none => simp [hpl] at h
      | some q =>
        obtain ⟨off, size⟩ := q
        simp only [hpl] at h ⊢
        rw [← hcl, ← hc.1]
        split at h
        · simp at h
        · rename_i hcond
          rw [if_neg hcond]
          exact fillL_rel place rest rest' _ _ r (hc.splice (cells_rel e2) off) (by simpa using hl) (fun j p p' h1 h2 => hp (j + 1) p p' (by simpa using h1) (by simpa using h2)) h
def offsL (T : Ty) : List Field → Option (List (Nat × Nat))
  | [] => some []
  | f :: r => match T f.type, offsL T r with | some d, some l => some ((f.offset, d.size) :: l) | _, _ => none
end Go.Proofs.Ytabmmdfhhpajgaa.Eng
