/- A text of this claim (E14): lemmas for the proof, no conditions of their own. -/
import Derived.Test.YtabmmdfhhpajgaaE13
set_option linter.unusedVariables false
set_option linter.unusedSimpArgs false
namespace Go.Proofs.Ytabmmdfhhpajgaa.Eng
open Go Go.RowKit

/-! ### a program's types -/
def flT (P : Program) : Nat → TypeId → Bool
  | 0, _ => false
  | n + 1, t => match P.underlying t with
    | some (.int _) | some .bool | some .string => true
    | some (.struct fs) => fs.toList.all fun f => flT P n f.type
    | some (.array _ e) => flT P n e
    | _ => false
def tyOf (P : Program) (t : TypeId) : Option TyD :=
  match P.info? t, P.underlying t with
  | some i, some u => match i.zero with
    | some z => if z.cells.toList.length = i.size ∧ z.cells.toList.all flatV = true then some ⟨u, i.size, i.bytes, z.cells.toList, flT P 9 t⟩ else none
    | none => none
  | _, _ => none
theorem tyOf_ok (P : Program) : TyOk P (tyOf P) := fun t d h => by
  unfold tyOf at h
  split at h
  · rename_i i u hi hu
    split at h
    · rename_i z hz
      split at h
      · rename_i hc
        obtain rfl := Option.some.inj h
        exact ⟨hu, ⟨i, z, hi, rfl, rfl, hz, rfl⟩, hc.1, hc.2⟩
      · simp at h
    · simp at h
  · simp at h
/-- Structs that may be compared. -/
def eqOf (P : Program) (t : Nat) : Bool := !P.stoodInHeld t && !P.eqGuardType P.depth t
theorem eqOf_ok (P : Program) : EqOk P (eqOf P) := fun t ht => by
  simpa [eqOf] using ht

section
variable {P : Program} {B : Nat} {t : List Value} {H : Heap} {Q : AQ}
theorem op_step {o : Oper} {K : Value → Heap → Prop} {v : Value} {H' : Heap} (h : opA (tyOf P) (eqOf P) B t H o = some (v, H')) (hk : K v H') : OpX P B o t H K :=
  OpX_op (tyOf_ok P) (eqOf_ok P) h hk
theorem reg_nil {ops : Array Oper} {K : List Value → Heap → Prop} (h : K t H) : RegX P B ops [] t H K := h
theorem reg_plain {ops : Array Oper} {d : Option Tmp} {op : Op} {ty : TypeId} {ps : String} {af : Array Edge} {r : List Oper} {K : List Value → Heap → Prop}
    (h : OpX P B ⟨d, op, ty, ps, af, none⟩ t H (fun v H' => RegX P B ops r (putT t d v) H' K)) : RegX P B ops (⟨d, op, ty, ps, af, none⟩ :: r) t H K := ⟨true, rfl, h⟩
theorem reg_guard {ops : Array Oper} {o : Oper} {r : List Oper} {K : List Value → Heap → Prop} {q : Bool} (hw : wantedA ops o t = some q)
    (h1 : q = true → OpX P B o t H (fun v H' => RegX P B ops r (putT t o.dst v) H' K)) (h2 : q = false → RegX P B ops r (putT t o.dst undef) H K) : RegX P B ops (o :: r) t H K :=
  ⟨q, hw, by cases q <;> simp_all⟩
theorem fun_ok {f : FuncId} {fn : Func} {c : Code} {args : List Value} {R : Value → Heap → Prop} (hf : P.funcs[f]? = some fn) (hb : fn.body = some c) (hn : (fn.name == "runtime.NumGoroutine") = false)
    (h : Ex P H.length c (args ++ List.replicate (fn.ntmps - args.length) undef) H (fun e t' H' => (e = .normal ∨ e = .ret) ∧ ∃ vs, resA (tyOf P) t' H' fn.results.toList = some vs ∧ RetX H.length (packR vs) H' R)) : Runs P f args H R :=
  Runs_of_Ex (tyOf_ok P) hf hb hn h
end
end Go.Proofs.Ytabmmdfhhpajgaa.Eng
