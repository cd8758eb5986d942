/- A text of this claim (E15): lemmas for the proof, no conditions of their own. -/
import Derived.Test.YtabmmdfhhpajgaaE14
set_option linter.unusedVariables false
set_option linter.unusedSimpArgs false
namespace Go.Proofs.Ytabmmdfhhpajgaa.Eng
open Go Go.RowKit

section
variable {P : Program} {B : Nat} {t : List Value} {H : Heap} {Q : AQ}
theorem Ex_sr {id : Nat} {ops : Array Oper} {y : Code} {t1 : List Value} {H1 : Heap} (h : RegX P B ops ops.toList t H (fun t' H' => t' = t1 ∧ H' = H1)) (k : Ex P B y t1 H1 Q) : Ex P B (.seq (.region id ops false) y) t H Q :=
  Ex_seq (Ex_region (regX_mono _ _ _ h fun t' H' ⟨e1, e2⟩ => by subst e1; subst e2; exact k))
where regX_mono : ∀ (l : List Oper) (t : List Value) (H : Heap) {K K1 : List Value → Heap → Prop}, RegX P B ops l t H K1 → (∀ t H, K1 t H → K t H) → RegX P B ops l t H K
  | [], t, H, K, K1, h, hk => hk _ _ h
  | o :: r, t, H, K, K1, ⟨q, hq, h⟩, hk => ⟨q, hq, by
    split
    · rename_i e; rw [if_pos e] at h; exact OpX.mono h fun v H' h => regX_mono r _ _ h hk
    · rename_i e; rw [if_neg e] at h; exact regX_mono r _ _ h hk⟩
theorem Ex_r {id : Nat} {ops : Array Oper} {t1 : List Value} {H1 : Heap} (h : RegX P B ops ops.toList t H (fun t' H' => t' = t1 ∧ H' = H1)) (k : Q .normal t1 H1) : Ex P B (.region id ops false) t H Q :=
  Ex_region (Ex_sr.regX_mono _ _ _ h fun t' H' ⟨e1, e2⟩ => by subst e1; subst e2; exact k)
theorem Ex_if {c : Operand} {x y : Code} {q : Bool} (hc : evL t c = some (.bool q)) (h1 : q = true → Ex P B x t H Q) (h2 : q = false → Ex P B y t H Q) : Ex P B (.cond c x y) t H Q :=
  Ex_cond hc (by cases q <;> simp_all)
theorem Ex_ift {c : Operand} {x y : Code} (hc : evL t c = some (.bool true)) (h1 : Ex P B x t H Q) : Ex P B (.cond c x y) t H Q := Ex_cond hc h1
theorem Ex_iff {c : Operand} {x y : Code} (hc : evL t c = some (.bool false)) (h1 : Ex P B y t H Q) : Ex P B (.cond c x y) t H Q := Ex_cond hc h1
theorem reg_gt {ops : Array Oper} {o : Oper} {r : List Oper} {K : List Value → Heap → Prop} (hw : wantedA ops o t = some true) (h1 : OpX P B o t H (fun v H' => RegX P B ops r (putT t o.dst v) H' K)) : RegX P B ops (o :: r) t H K := ⟨true, hw, h1⟩
theorem reg_gf {ops : Array Oper} {o : Oper} {r : List Oper} {K : List Value → Heap → Prop} (hw : wantedA ops o t = some false) (h1 : RegX P B ops r (putT t o.dst undef) H K) : RegX P B ops (o :: r) t H K := ⟨false, hw, h1⟩
theorem reg_call {ops : Array Oper} {d : Option Tmp} {fo : Operand} {args : Array Operand} {tys : Array TypeId} {ty : TypeId} {ps : String} {af : Array Edge} {r : List Oper} {K : List Value → Heap → Prop} {f : FuncId} {caps as : List Value} {R : Value → Heap → Prop}
    (hf : evL t fo = some (.func (.func f) #[] ⟨caps⟩)) (ha : evAllL t args.toList = some as) (hr : Runs P f (as ++ caps) H R) (hk : ∀ v H', R v H' → RegX P B ops r (putT t d v) H' K) : RegX P B ops (⟨d, .call ⟨.value fo, args, tys⟩, ty, ps, af, none⟩ :: r) t H K :=
  ⟨true, rfl, OpX_call rfl hf ha hr hk⟩
theorem op_quo {o0 : Oper} {x y : Operand} {ty ty2 : TypeId} {k : IntKind} {a b : Int} {K : Value → Heap → Prop} (ho : o0.op = .binOp .quo ty x y ty2) (hx : evL t x = some (.int k a)) (hy : evL t y = some (.int k b)) (hb : b ≠ 0) (h : K (.int k (k.wrap (a.tdiv b))) H) : OpX P B o0 t H K :=
  op_step (v := .int k (k.wrap (a.tdiv b))) (H' := H) (by simp [opA, ho, hx, hy, binA, intA, hb]) h
theorem op_rem {o0 : Oper} {x y : Operand} {ty ty2 : TypeId} {k : IntKind} {a b : Int} {K : Value → Heap → Prop} (ho : o0.op = .binOp .rem ty x y ty2) (hx : evL t x = some (.int k a)) (hy : evL t y = some (.int k b)) (hb : b ≠ 0) (h : K (.int k (a.tmod b)) H) : OpX P B o0 t H K :=
  op_step (v := .int k (a.tmod b)) (H' := H) (by simp [opA, ho, hx, hy, binA, intA, hb]) h
theorem Ex_t {x y : Code} (h : Ex P B x t H Q) : Ex P B (if true = true then x else y) t H Q := h
theorem Ex_f {x y : Code} (h : Ex P B y t H Q) : Ex P B (if false = true then x else y) t H Q := h
theorem Ex_b {x y : Code} {q : Bool} (h1 : q = true → Ex P B x t H Q) (h2 : q = false → Ex P B y t H Q) : Ex P B (if q = true then x else y) t H Q := by cases q <;> simp_all
/-- A way that hangs on a guard. -/
def GS (q w : Bool) (X Y : Prop) : Prop := (q = w → X) ∧ (q = !w → Y)
theorem GS_tt {X Y : Prop} (h : X) : GS true true X Y := ⟨fun _ => h, fun e => by simp at e⟩
theorem GS_ff {X Y : Prop} (h : X) : GS false false X Y := ⟨fun _ => h, fun e => by simp at e⟩
theorem GS_tf {X Y : Prop} (h : Y) : GS true false X Y := ⟨fun e => by simp at e, fun _ => h⟩
theorem GS_ft {X Y : Prop} (h : Y) : GS false true X Y := ⟨fun e => by simp at e, fun _ => h⟩
theorem GS_bt {X Y : Prop} {q : Bool} (h1 : q = true → X) (h2 : q = false → Y) : GS q true X Y := ⟨h1, h2⟩
theorem GS_bf {X Y : Prop} {q : Bool} (h1 : q = false → X) (h2 : q = true → Y) : GS q false X Y := ⟨h1, h2⟩
theorem reg_g {ops : Array Oper} {o : Oper} {r : List Oper} {K : List Value → Heap → Prop} {q w : Bool} (hw : wantedA ops o t = some (some q == some w))
    (h : GS q w (OpX P B o t H (fun v H' => RegX P B ops r (putT t o.dst v) H' K)) (RegX P B ops r (putT t o.dst undef) H K)) : RegX P B ops (o :: r) t H K := by
  by_cases e : q = w
  · subst e; exact ⟨true, by rw [hw]; simp, h.1 rfl⟩
  · exact ⟨false, by rw [hw]; simp [e], h.2 (by cases q <;> cases w <;> simp_all)⟩
theorem reg_gn {ops : Array Oper} {o : Oper} {r : List Oper} {K : List Value → Heap → Prop} {w : Bool} (hw : wantedA ops o t = some (none == some w)) (h : RegX P B ops r (putT t o.dst undef) H K) : RegX P B ops (o :: r) t H K := ⟨false, by rw [hw]; rfl, h⟩
theorem reg_p {ops : Array Oper} {d : Option Tmp} {op : Op} {ty : TypeId} {ps : String} {af : Array Edge} {r : List Oper} {K : List Value → Heap → Prop} {v : Value} {H' : Heap} {t' : List Value}
    (h : opA (tyOf P) (eqOf P) B t H ⟨d, op, ty, ps, af, none⟩ = some (v, H')) (ht : putT t d v = t') (k : RegX P B ops r t' H' K) : RegX P B ops (⟨d, op, ty, ps, af, none⟩ :: r) t H K := by
  subst ht; exact reg_plain (op_step h k)
theorem reg_o {ops : Array Oper} {o : Oper} {r : List Oper} {K : List Value → Heap → Prop} {v : Value} {H' : Heap} {t' : List Value}
    (h : opA (tyOf P) (eqOf P) B t H o = some (v, H')) (ht : putT t o.dst v = t') (k : RegX P B ops r t' H' K) : OpX P B o t H (fun v H' => RegX P B ops r (putT t o.dst v) H' K) := by
  subst ht; exact op_step h k
theorem reg_oc {ops : Array Oper} {d : Option Tmp} {fo : Operand} {args : Array Operand} {tys : Array TypeId} {ty : TypeId} {ps : String} {af : Array Edge} {g : Option (Nat × Bool)} {r : List Oper} {K : List Value → Heap → Prop} {f : FuncId} {caps as as' : List Value} {R : Value → Heap → Prop}
    (hf : evL t fo = some (.func (.func f) #[] ⟨caps⟩)) (ha : evAllL t args.toList = some as) (has : as ++ caps = as') (hr : Runs P f as' H R) (hk : ∀ v H', R v H' → RegX P B ops r (putT t d v) H' K) : OpX P B ⟨d, .call ⟨.value fo, args, tys⟩, ty, ps, af, g⟩ t H (fun v H' => RegX P B ops r (putT t d v) H' K) := by
  subst has; exact OpX_call rfl hf ha hr hk
theorem reg_u {ops : Array Oper} {o : Oper} {r : List Oper} {K : List Value → Heap → Prop} {t' : List Value} (ht : putT t o.dst undef = t') (k : RegX P B ops r t' H K) : RegX P B ops r (putT t o.dst undef) H K := by
  subst ht; exact k
theorem reg_k {ops : Array Oper} {d : Option Tmp} {r : List Oper} {K : List Value → Heap → Prop} {v : Value} {t' : List Value} (ht : putT t d v = t') (k : RegX P B ops r t' H K) : RegX P B ops r (putT t d v) H K := by
  subst ht; exact k
theorem op_call {o0 : Oper} {fo : Operand} {args : Array Operand} {tys : Array TypeId} {f : FuncId} {caps as as' : List Value} {v : Value} {H' : Heap} {K : Value → Heap → Prop}
    (ho : o0.op = .call ⟨.value fo, args, tys⟩) (hf : evL t fo = some (.func (.func f) #[] ⟨caps⟩)) (ha : evAllL t args.toList = some as) (has : as ++ caps = as') (hr : Runs P f as' H (fun u G => u = v ∧ G = H')) (k : K v H') : OpX P B o0 t H K := by
  subst has
  exact OpX_call ho hf ha hr (fun u G ⟨e1, e2⟩ => by subst e1; subst e2; exact k)
theorem op_callR {o0 : Oper} {fo : Operand} {args : Array Operand} {tys : Array TypeId} {f : FuncId} {caps as as' : List Value} {R K : Value → Heap → Prop}
    (ho : o0.op = .call ⟨.value fo, args, tys⟩) (hf : evL t fo = some (.func (.func f) #[] ⟨caps⟩)) (ha : evAllL t args.toList = some as) (has : as ++ caps = as') (hr : Runs P f as' H R) (k : ∀ v H', R v H' → K v H') : OpX P B o0 t H K := by
  subst has
  exact OpX_call ho hf ha hr k
/-- A call whose answer is known. -/
theorem reg_c {ops : Array Oper} {d : Option Tmp} {fo : Operand} {args : Array Operand} {tys : Array TypeId} {ty : TypeId} {ps : String} {af : Array Edge} {r : List Oper} {K : List Value → Heap → Prop} {f : FuncId} {caps as as' : List Value} {v : Value} {H' : Heap} {t' : List Value}
    (hf : evL t fo = some (.func (.func f) #[] ⟨caps⟩)) (ha : evAllL t args.toList = some as) (has : as ++ caps = as') (hr : Runs P f as' H (fun u G => u = v ∧ G = H')) (ht : putT t d v = t') (k : RegX P B ops r t' H' K) : RegX P B ops (⟨d, .call ⟨.value fo, args, tys⟩, ty, ps, af, none⟩ :: r) t H K := by
  subst has; subst ht
  exact reg_call hf ha hr (fun u G ⟨e1, e2⟩ => by subst e1; subst e2; exact k)
/-- A guard that is not known: both ways. -/
theorem reg_gb {ops : Array Oper} {o : Oper} {r : List Oper} {K : List Value → Heap → Prop} {q w : Bool} (hw : wantedA ops o t = some (some q == some w))
    (h1 : q = w → OpX P B o t H (fun v H' => RegX P B ops r (putT t o.dst v) H' K)) (h2 : q = !w → RegX P B ops r (putT t o.dst undef) H K) : RegX P B ops (o :: r) t H K := by
  by_cases e : q = w
  · subst e; exact ⟨true, by rw [hw]; simp, h1 rfl⟩
  · exact ⟨false, by rw [hw]; simp [e], h2 (by cases q <;> cases w <;> simp_all)⟩
theorem fun_at {f : FuncId} {fn : Func} {c : Code} {args t0 : List Value} {rs : List ResultVar} {R : Value → Heap → Prop} (n : Nat) (hf : P.funcs[f]? = some fn) (hb : fn.body = some c) (hn : (fn.name == "runtime.NumGoroutine") = false) (hm : fn.ntmps = n) (hr : fn.results.toList = rs)
    (ht : args ++ List.replicate (n - args.length) undef = t0) (h : Ex P H.length c t0 H (fun e t' H' => (e = .normal ∨ e = .ret) ∧ ∃ vs, resA (tyOf P) t' H' rs = some vs ∧ RetX H.length (packR vs) H' R)) : Runs P f args H R := by
  subst hm; subst ht; subst hr; exact fun_ok hf hb hn h
theorem ret_same {e : Exit} {t' : List Value} {rs : List ResultVar} {R : Value → Heap → Prop} {vs : List Value} (he : e = .normal ∨ e = .ret) (hv : resA (tyOf P) t' H rs = some vs) (hl : Lt H.length (packR vs)) (h : R (packR vs) H) :
    (e = .normal ∨ e = .ret) ∧ ∃ vs, resA (tyOf P) t' H rs = some vs ∧ RetX H.length (packR vs) H R := ⟨he, vs, hv, .same h hl⟩
theorem ret_drop {e : Exit} {t' : List Value} {H0 : Heap} {bs : List (Option Blk)} {rs : List ResultVar} {R : Value → Heap → Prop} {vs : List Value} (he : e = .normal ∨ e = .ret) (hv : resA (tyOf P) t' (H0 ++ bs) rs = some vs) (hl : Lt H0.length (packR vs)) (h : R (packR vs) H0) :
    (e = .normal ∨ e = .ret) ∧ ∃ vs, resA (tyOf P) t' (H0 ++ bs) rs = some vs ∧ RetX H0.length (packR vs) (H0 ++ bs) R := ⟨he, vs, hv, .drop h hl⟩
end
end Go.Proofs.Ytabmmdfhhpajgaa.Eng
