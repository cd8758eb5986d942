/- A text of this claim (EC): lemmas for the proof, no conditions of their own. -/
import Derived.Test.YtbmejhabgoimeaaEB
set_option linter.unusedVariables false
set_option linter.unusedSimpArgs false
namespace Go.Proofs.Ytbmejhabgoimeaa.Eng
open Go Go.RowKit

section
variable {P : Program} {B : Nat} {t : List Value} {H : Heap} {Q : AQ}
theorem Ex_sr {id : Nat} {ops : Array Oper} {y : Code} {t1 : List Value} {H1 : Heap} (h : RegX P B ops ops.toList t H (fun t' H' => t' = t1 ∧ H' = H1)) (k : Ex P B y t1 H1 Q) : Ex P B (.seq (.region id ops false) y) t H Q :=
  Ex_seq (Ex_region (regX_mono _ _ _ h fun t' H' ⟨e1, e2⟩ => by subst e1; subst e2; exact k))
where regX_mono : ∀ (l : List Oper) (t : List Value) (H : Heap) {K K1 : List Value → Heap → Prop}, RegX P B ops l t H K1 → (∀ t H, K1 t H → K t H) → RegX P B ops l t H K
  | [], t, H, K, K1, h, hk => hk _ _ h
  | o :: r, t, H, K, K1, ⟨q, hq, h⟩, hk => ⟨q, hq, by
    split
    · rename_i e; rw [if_pos e] at h; exact OpX.mono h fun v H' h => regX_mono r _ _ h hk
    · rename_i e; rw [if_neg e] at h; exact regX_mono r _ _ h hk⟩
theorem Ex_r {id : Nat} {ops : Array Oper} {t1 : List Value} {H1 : Heap} (h : RegX P B ops ops.toList t H (fun t' H' => t' = t1 ∧ H' = H1)) (k : Q .normal t1 H1) : Ex P B (.region id ops false) t H Q :=
  Ex_region (Ex_sr.regX_mono _ _ _ h fun t' H' ⟨e1, e2⟩ => by subst e1; subst e2; exact k)
theorem Ex_if {c : Operand} {x y : Code} {q : Bool} (hc : evL t c = some (.bool q)) (h1 : q = true → Ex P B x t H Q) (h2 : q = false → Ex P B y t H Q) : Ex P B (.cond c x y) t H Q :=
  Ex_cond hc (by cases q <;> simp_all)
theorem Ex_ift {c : Operand} {x y : Code} (hc : evL t c = some (.bool true)) (h1 : Ex P B x t H Q) : Ex P B (.cond c x y) t H Q := Ex_cond hc h1
theorem Ex_iff {c : Operand} {x y : Code} (hc : evL t c = some (.bool false)) (h1 : Ex P B y t H Q) : Ex P B (.cond c x y) t H Q := Ex_cond hc h1
theorem reg_gt {ops : Array Oper} {o : Oper} {r : List Oper} {K : List Value → Heap → Prop} (hw : wantedA ops o t = some true) (h1 : OpX P B o t H (fun v H' => RegX P B ops r (putT t o.dst v) H' K)) : RegX P B ops (o :: r) t H K := ⟨true, hw, h1⟩
theorem reg_gf {ops : Array Oper} {o : Oper} {r : List Oper} {K : List Value → Heap → Prop} (hw : wantedA ops o t = some false) (h1 : RegX P B ops r (putT t o.dst undef) H K) : RegX P B ops (o :: r) t H K := ⟨false, hw, h1⟩
theorem reg_call {ops : Array Oper} {d : Option Tmp} {fo : Operand} {args : Array Operand} {tys : Array TypeId} {ty : TypeId} {ps : String} {af : Array Edge} {r : List Oper} {K : List Value → Heap → Prop} {f : FuncId} {caps as : List Value} {R : Value → Heap → Prop}
    (hf : evL t fo = some (.func (.func f) #[] ⟨caps⟩)) (ha : evAllL t args.toList = some as) (hr : Runs P f (as ++ caps) H R) (hk : ∀ v H', R v H' → RegX P B ops r (putT t d v) H' K) : RegX P B ops (⟨d, .call ⟨.value fo, args, tys⟩, ty, ps, af, none⟩ :: r) t H K :=
  ⟨true, rfl, OpX_call rfl hf ha hr hk⟩
theorem op_quo {o0 : Oper} {x y : Operand} {ty ty2 : TypeId} {k : IntKind} {a b : Int} {K : Value → Heap → Prop} (ho : o0.op = .binOp .quo ty x y ty2) (hx : evL t x = some (.int k a)) (hy : evL t y = some (.int k b)) (hb : b ≠ 0) (h : K (.int k (k.wrap (a.tdiv b))) H) : OpX P B o0 t H K :=
  op_step (v := .int k (k.wrap (a.tdiv b))) (H' := H) (by simp [opA, ho, hx, hy, binA, intA, hb]) h
theorem op_rem {o0 : Oper} {x y : Operand} {ty ty2 : TypeId} {k : IntKind} {a b : Int} {K : Value → Heap → Prop} (ho : o0.op = .binOp .rem ty x y ty2) (hx : evL t x = some (.int k a)) (hy : evL t y = some (.int k b)) (hb : b ≠ 0) (h : K (.int k (a.tmod b)) H) : OpX P B o0 t H K :=
  op_step (v := .int k (a.tmod b)) (H' := H) (by simp [opA, ho, hx, hy, binA, intA, hb]) h
theorem Ex_t {x y : Code} (h : Ex P B x t H Q) : Ex P B (if true = true then x else y) t H Q := h
theorem Ex_f {x y : Code} (h : Ex P B y t H Q) : Ex P B (if false = true then x else y) t H Q := h
theorem Ex_b {x y : Code} {q : Bool} (h1 : q = true → Ex P B x t H Q) (h2 : q = false → Ex P B y t H Q) : Ex P B (if q = true then x else y) t H Q := by cases q <;> simp_all
/-- A way that hangs on a guard. -/
def GS (q w : Bool) (X Y : Prop) : Prop := (q = w → X) ∧ (q = !w → Y)
theorem GS_tt {X Y : Prop} (h : X) : GS true true X Y := ⟨fun _ => h, fun e => by simp at e⟩
theorem GS_ff {X Y : Prop} (h : X) : GS false false X Y := ⟨fun _ => h, fun e => by simp at e⟩
theorem GS_tf {X Y : Prop} (h : Y) : GS true false X Y := ⟨fun e => by simp at e, fun _ => h⟩
theorem GS_ft {X Y : Prop} (h : Y) : GS false true X Y := ⟨fun e => by simp at e, fun _ => h⟩
theorem GS_bt {X Y : Prop} {q : Bool} (h1 : q = true → X) (h2 : q = false → Y) : GS q true X Y := ⟨h1, h2⟩
theorem GS_bf {X Y : Prop} {q : Bool} (h1 : q = false → X) (h2 : q = true → Y) : GS q false X Y := ⟨h1, h2⟩
theorem reg_g {ops : Array Oper} {o : Oper} {r : List Oper} {K : List Value → Heap → Prop} {q w : Bool} (hw : wantedA ops o t = some (some q == some w))
    (h : GS q w (OpX P B o t H (fun v H' => RegX P B ops r (putT t o.dst v) H' K)) (RegX P B ops r (putT t o.dst undef) H K)) : RegX P B ops (o :: r) t H K := by
  by_cases e : q = w
  · subst e; exact ⟨true, by rw [hw]; simp, h.1 rfl⟩
  · exact ⟨false, by rw [hw]; simp [e], h.2 (by cases q <;> cases w <;> simp_all)⟩
theorem reg_gn {ops : Array Oper} {o : Oper} {r : List Oper} {K : List Value → Heap → Prop} {w : Bool} (hw : wantedA ops o t = some (none == some w)) (h : RegX P B ops r (putT t o.dst undef) H K) : RegX P B ops (o :: r) t H K := ⟨false, by rw [hw]; rfl, h⟩
theorem reg_p {ops : Array Oper} {d : Option Tmp} {op : Op} {ty : TypeId} {ps : String} {af : Array Edge} {r : List Oper} {K : List Value → Heap → Prop} {v : Value} {H' : Heap} {t' : List Value}
    (h : opA (tyOf P) (eqOf P) B t H ⟨d, op, ty, ps, af, none⟩ = some (v, H')) (ht : putT t d v = t') (k : RegX P B ops r t' H' K) : RegX P B ops (⟨d, op, ty, ps, af, none⟩ :: r) t H K := by
  subst ht; exact reg_plain (op_step h k)
theorem reg_o {ops : Array Oper} {o : Oper} {r : List Oper} {K : List Value → Heap → Prop} {v : Value} {H' : Heap} {t' : List Value}
    (h : opA (tyOf P) (eqOf P) B t H o = some (v, H')) (ht : putT t o.dst v = t') (k : RegX P B ops r t' H' K) : OpX P B o t H (fun v H' => RegX P B ops r (putT t o.dst v) H' K) := by
  subst ht; exact op_step h k
theorem reg_oc {ops : Array Oper} {d : Option Tmp} {fo : Operand} {args : Array Operand} {tys : Array TypeId} {ty : TypeId} {ps : String} {af : Array Edge} {g : Option (Nat × Bool)} {r : List Oper} {K : List Value → Heap → Prop} {f : FuncId} {caps as as' : List Value} {R : Value → Heap → Prop}
    (hf : evL t fo = some (.func (.func f) #[] ⟨caps⟩)) (ha : evAllL t args.toList = some as) (has : as ++ caps = as') (hr : Runs P f as' H R) (hk : ∀ v H', R v H' → RegX P B ops r (putT t d v) H' K) : OpX P B ⟨d, .call ⟨.value fo, args, tys⟩, ty, ps, af, g⟩ t H (fun v H' => RegX P B ops r (putT t d v) H' K) := by
  subst has; exact OpX_call rfl hf ha hr hk
theorem reg_u {ops : Array Oper} {o : Oper} {r : List Oper} {K : List Value → Heap → Prop} {t' : List Value} (ht : putT t o.dst undef = t') (k : RegX P B ops r t' H K) : RegX P B ops r (putT t o.dst undef) H K := by
  subst ht; exact k
theorem reg_k {ops : Array Oper} {d : Option Tmp} {r : List Oper} {K : List Value → Heap → Prop} {v : Value} {t' : List Value} (ht : putT t d v = t') (k : RegX P B ops r t' H K) : RegX P B ops r (putT t d v) H K := by
  subst ht; exact k
theorem op_call {o0 : Oper} {fo : Operand} {args : Array Operand} {tys : Array TypeId} {f : FuncId} {caps as as' : List Value} {v : Value} {H' : Heap} {K : Value → Heap → Prop}
    (ho : o0.op = .call ⟨.value fo, args, tys⟩) (hf : evL t fo = some (.func (.func f) #[] ⟨caps⟩)) (ha : evAllL t args.toList = some as) (has : as ++ caps = as') (hr : Runs P f as' H (fun u G => u = v ∧ G = H')) (k : K v H') : OpX P B o0 t H K := by
  subst has
  exact OpX_call ho hf ha hr (fun u G ⟨e1, e2⟩ => by subst e1; subst e2; exact k)
theorem op_callR {o0 : Oper} {fo : Operand} {args : Array Operand} {tys : Array TypeId} {f : FuncId} {caps as as' : List Value} {R K : Value → Heap → Prop}
    (ho : o0.op = .call ⟨.value fo, args, tys⟩) (hf : evL t fo = some (.func (.func f) #[] ⟨caps⟩)) (ha : evAllL t args.toList = some as) (has : as ++ caps = as') (hr : Runs P f as' H R) (k : ∀ v H', R v H' → K v H') : OpX P B o0 t H K := by
  subst has
  exact OpX_call ho hf ha hr k
/-- A call whose answer is known. -/
theorem reg_c {ops : Array Oper} {d : Option Tmp} {fo : Operand} {args : Array Operand} {tys : Array TypeId} {ty : TypeId} {ps : String} {af : Array Edge} {r : List Oper} {K : List Value → Heap → Prop} {f : FuncId} {caps as as' : List Value} {v : Value} {H' : Heap} {t' : List Value}
    (hf : evL t fo = some (.func (.func f) #[] ⟨caps⟩)) (ha : evAllL t args.toList = some as) (has : as ++ caps = as') (hr : Runs P f as' H (fun u G => u = v ∧ G = H')) (ht : putT t d v = t') (k : RegX P B ops r t' H' K) : RegX P B ops (⟨d, .call ⟨.value fo, args, tys⟩, ty, ps, af, none⟩ :: r) t H K := by
  subst has; subst ht
  exact reg_call hf ha hr (fun u G ⟨e1, e2⟩ => by subst e1; subst e2; exact k)
/-- A guard that is not known: both ways. -/
theorem reg_gb {ops : Array Oper} {o : Oper} {r : List Oper} {K : List Value → Heap → Prop} {q w : Bool} (hw : wantedA ops o t = some (some q == some w))
    (h1 : q = w → OpX P B o t H (fun v H' => RegX P B ops r (putT t o.dst v) H' K)) (h2 : q = !w → RegX P B ops r (putT t o.dst undef) H K) : RegX P B ops (o :: r) t H K := by
  by_cases e : q = w
  · subst e; exact ⟨true, by rw [hw]; simp, h1 rfl⟩
  · exact ⟨false, by rw [hw]; simp [e], h2 (by cases q <;> cases w <;> simp_all)⟩
theorem fun_at {f : FuncId} {fn : Func} {c : Code} {args t0 : List Value} {rs : List ResultVar} {R : Value → Heap → Prop} (n : Nat) (hf : P.funcs[f]? = some fn) (hb : fn.body = some c) (hn : (fn.name == "runtime.NumGoroutine") = false) (hm : fn.ntmps = n) (hr : fn.results.toList = rs)
    (ht : args ++ List.replicate (n - args.length) undef = t0) (h : Ex P H.length c t0 H (fun e t' H' => (e = .normal ∨ e = .ret) ∧ ∃ vs, resA (tyOf P) t' H' rs = some vs ∧ RetX H.length (packR vs) H' R)) : Runs P f args H R := by
  subst hm; subst ht; subst hr; exact fun_ok hf hb hn h
theorem ret_same {e : Exit} {t' : List Value} {rs : List ResultVar} {R : Value → Heap → Prop} {vs : List Value} (he : e = .normal ∨ e = .ret) (hv : resA (tyOf P) t' H rs = some vs) (hl : Lt H.length (packR vs)) (h : R (packR vs) H) :
    (e = .normal ∨ e = .ret) ∧ ∃ vs, resA (tyOf P) t' H rs = some vs ∧ RetX H.length (packR vs) H R := ⟨he, vs, hv, .same h hl⟩
theorem ret_drop {e : Exit} {t' : List Value} {H0 : Heap} {bs : List (Option Blk)} {rs : List ResultVar} {R : Value → Heap → Prop} {vs : List Value} (he : e = .normal ∨ e = .ret) (hv : resA (tyOf P) t' (H0 ++ bs) rs = some vs) (hl : Lt H0.length (packR vs)) (h : R (packR vs) H0) :
    (e = .normal ∨ e = .ret) ∧ ∃ vs, resA (tyOf P) t' (H0 ++ bs) rs = some vs ∧ RetX H0.length (packR vs) (H0 ++ bs) R := ⟨he, vs, hv, .drop h hl⟩
end
end Go.Proofs.Ytbmejhabgoimeaa.Eng
set_option linter.unusedVariables false
set_option linter.unusedSimpArgs false
namespace Go.Proofs.Ytbmejhabgoimeaa.Eng
open Go Go.RowKit

/-! ### regions that draw their order -/
section
variable {P : Program} {T : Ty} {eqOk : Nat → Bool} {B : Nat} {t t' : List Value} {H : Heap}

theorem evAllL_congr : ∀ (xs : List Operand), (∀ x ∈ xs, evL t' x = evL t x) → evAllL t' xs = evAllL t xs
  | [], _ => rfl
  | x :: r, h => by simp only [evAllL]; rw [h x (by simp), evAllL_congr r fun y hy => h y (by simp [hy])]
theorem evParts_congr : ∀ (xs : List (Nat × Operand)), (∀ p ∈ xs, evL t' p.2 = evL t p.2) → evParts t' xs = evParts t xs
  | [], _ => rfl
  | (i, x) :: r, h => by
    have h1 := h (i, x) (by simp)
    simp only [evParts]; rw [h1, evParts_congr r fun y hy => h y (by simp [hy])]
theorem optInt_congr {x : Option Operand} (h : ∀ y ∈ x.toList, evL t' y = evL t y) : optInt t' x = optInt t x := by
  cases x with
  | none => rfl
  | some y => simp only [optInt]; rw [h y (by simp)]

theorem opA_congr {o : Oper} (h : ∀ x ∈ o.op.operands, ev t' x = ev t x) : opA T eqOk B t' H o = opA T eqOk B t H o := by
  have hL : ∀ x ∈ o.op.operands, evL t' x = evL t x := fun x hx => by simp only [evL, h x hx]
  obtain ⟨dst, op, ty0, pos, after, guard⟩ := o
  simp only at h hL
  cases op with
  | build ty ps =>
    simp only [opA]
    rw [evParts_congr ps.toList fun p hp => hL p.2 (by simp only [Op.operands, List.mem_toArray, List.mem_map]; exact ⟨p, by simpa using hp, rfl⟩)]
  | buildSlice ty n ps =>
    simp only [opA]
    rw [evParts_congr ps.toList fun p hp => hL p.2 (by simp only [Op.operands, List.mem_toArray, List.mem_map]; exact ⟨p, by simpa using hp, rfl⟩)]
  | makeFunc f first caps =>
    cases f <;> simp only [opA]
    rw [evAllL_congr caps.toList fun x hx => hL x (by simp only [Op.operands, Array.mem_append]; exact .inr (by simpa using hx))]
  | slice ty x lo hi mx =>
    simp only [opA]
    rw [hL x (by simp [Op.operands]), optInt_congr (x := lo) fun y hy => hL y (by cases lo <;> simp_all [Op.operands]), optInt_congr (x := hi) fun y hy => hL y (by cases hi <;> simp_all [Op.operands]), optInt_congr (x := mx) fun y hy => hL y (by cases mx <;> simp_all [Op.operands])]
  | call c =>
    obtain ⟨callee, args, tys⟩ := c
    cases callee with
    | builtin b =>
      simp only [opA]
      rw [evAllL_congr args.toList fun x hx => hL x (by simp only [Op.operands, Call.operands]; simp; simpa using hx)]
    | _ => rfl
  | alloc e => rfl
  | _ => first
    | rfl
    | (simp [Op.operands] at h hL; simp only [opA, h, hL])

/-- Operations that neither read nor change the heap. -/
def isPure (o : Oper) : Bool := match o.op with
  | .move _ | .assign _ | .pick _ _ _ | .build _ _ | .nilCheck _ | .binOp _ _ _ _ _ | .unOp _ _ _ | .convert _ _ _ | .makeFunc _ _ _ | .fieldAddr _ _ _ | .field _ _ _ | .indexAddr _ _ _ | .index _ _ _ | .extract _ _ => true
  | .call ⟨.builtin .len, _, _⟩ | .call ⟨.builtin .max, _, _⟩ | .call ⟨.builtin .min, _, _⟩ => true
  | _ => false
theorem map_pair_any {α : Type} {x : Option α} {H H1 : Heap} {v : α} (h : x.map (·, H) = some (v, H1)) : H1 = H ∧ ∀ G : Heap, x.map (·, G) = some (v, G) := by
  cases x <;> simp at h ⊢
  exact ⟨h.2.symm, h.1⟩
theorem opA_pure {o : Oper} {v : Value} {H1 : Heap} (hp : isPure o = true) (h : opA T eqOk B t H o = some (v, H1)) : H1 = H ∧ ∀ G : Heap, opA T eqOk B t G o = some (v, G) := by
  obtain ⟨dst, op, ty0, pos, after, guard⟩ := o
  cases op with
  | makeFunc f first caps =>
    cases f with
    | func f =>
      simp only [opA] at h ⊢
      split at h
      · rename_i h0
        simp only [h0, if_true]
        cases hl : evAllL t caps.toList <;> simp [hl] at h ⊢
        exact ⟨h.2.symm, h.1⟩
      · simp at h
    | _ => simp [opA] at h
  | call c =>
    obtain ⟨callee, args, tys⟩ := c
    cases callee with
    | builtin b =>
      simp only [opA] at h ⊢
      split at h
      · rename_i l hl
        cases b <;> simp [isPure] at hp <;> simp only [builtinA] at h ⊢ <;> split at h <;> first | (have := map_pair_any h; simp_all; done) | (simp at h; done) | simp_all
      · simp at h
    | _ => simp [opA] at h
  | _ => first
    | (simp [isPure] at hp; done)
    | (simp only [opA] at h ⊢
       repeat' split at h
       all_goals first
         | (simp at h; done)
         | (have := map_pair_any h; simp_all; done)
         | (simp_all; done))
end
end Go.Proofs.Ytbmejhabgoimeaa.Eng
set_option linter.unusedVariables false
set_option linter.unusedSimpArgs false
namespace Go.Proofs.Ytbmejhabgoimeaa.Eng
open Go Go.RowKit

/-! ### the order of a region -/
/-- What goes before an operation, as bits. -/
def maskOf (tab : List Nat) (o : Oper) : Nat := o.after.toList.foldl (fun m e => if Region.binds .any e = true then m ||| (1 <<< e.on) ||| tab.getD e.on 0 else m) 0
def tabL : List Oper → List Nat → List Nat
  | [], tab => tab
  | o :: r, tab => tabL r (tab ++ [maskOf tab o])
def anc (ops : Array Oper) (i j : Nat) : Bool := ((tabL ops.toList []).getD i 0).testBit j
def isAllocO (o : Oper) : Bool := match o.op with | .alloc _ => true | _ => false
def isReadO (o : Oper) : Bool := match o.op with | .load _ _ => true | .slice _ _ _ _ _ => true | _ => false
def isHeapO (o : Oper) : Bool := !(isPure o || isAllocO o || isReadO o)
def heapAt (ops : Array Oper) (i : Nat) : Bool := match ops[i]? with | some o => isHeapO o | none => false
def allocAt (ops : Array Oper) (i : Nat) : Bool := match ops[i]? with | some o => isAllocO o | none => false
/-- How many of the first i operations change the heap (make a variable). -/
def cntB (p : Nat → Bool) : Nat → Nat
  | 0 => 0
  | i + 1 => cntB p i + (if p i = true then 1 else 0)
def pairOk (ops : Array Oper) (i : Nat) (o : Oper) (j : Nat) (oj : Oper) : Bool :=
  (match oj.dst with
    | some d => (!(o.looksAt ops).contains d || anc ops i j || anc ops j i) && (i == j || o.dst != some d)
    | none => true) &&
  (!(isHeapO o && isHeapO oj) || i == j || anc ops i j || anc ops j i)
def drawOk (ops : Array Oper) : Bool :=
  (List.range ops.size).all fun i => match ops[i]? with
    | none => false
    | some o => o.after.toList.all (fun e => !Region.binds .any e || decide (e.on < i)) && (List.range ops.size).all fun j => match ops[j]? with
      | none => false
      | some oj => pairOk ops i o j oj
/-- The heaps at which operation i may read. -/
def mayAt (ops : Array Oper) (i k : Nat) : Bool :=
  (List.range ops.size).all fun j => !heapAt ops j || ((!anc ops i j || decide (cntB (heapAt ops) j < k)) && (!anc ops j i || decide (k ≤ cntB (heapAt ops) j)))

section
variable {P : Program} {B : Nat} {t : List Value} {H : Heap} {Q : AQ} {ops : Array Oper}

theorem drawOk_at (h : drawOk ops = true) {i : Nat} {o : Oper} (hi : ops[i]? = some o) : (∀ e ∈ o.after.toList, Region.binds .any e = true → e.on < i) ∧ ∀ (j : Nat) (oj : Oper), ops[j]? = some oj → pairOk ops i o j oj = true := by
  have hlt : i < ops.size := (Array.getElem?_eq_some_iff.1 hi).1
  have := List.all_eq_true.1 h i (by simpa using hlt)
  rw [hi] at this
  simp only [Bool.and_eq_true] at this
  refine ⟨fun e he hb => by have := List.all_eq_true.1 this.1 e he; rw [hb] at this; simpa using this, fun j oj hj => ?_⟩
  have hjt : j < ops.size := (Array.getElem?_eq_some_iff.1 hj).1
  have h2 := List.all_eq_true.1 this.2 j (by simpa using hjt)
  rw [hj] at h2
  exact h2

theorem heapAt_some {i : Nat} (h : heapAt ops i = true) : ∃ o, ops[i]? = some o ∧ isHeapO o = true := by
  unfold heapAt at h
  split at h
  · exact ⟨_, by assumption, h⟩
  · simp at h
/-- What is listed is closed under what goes before. -/
def Closed (ops : Array Oper) (L : Nat → Bool) : Prop := ∀ (i : Nat) (o : Oper), L i = true → ops[i]? = some o → ∀ e ∈ o.after.toList, Region.binds .any e = true → L e.on = true
def ReadyAt (ops : Array Oper) (L : Nat → Bool) (i : Nat) : Prop := ∀ o, ops[i]? = some o → ∀ e ∈ o.after.toList, Region.binds .any e = true → L e.on = true
theorem mask_bit (tab : List Nat) (j : Nat) : ∀ (es : List Edge) (m : Nat), (es.foldl (fun m e => if Region.binds .any e = true then m ||| (1 <<< e.on) ||| tab.getD e.on 0 else m) m).testBit j = true →
    m.testBit j = true ∨ ∃ e ∈ es, Region.binds .any e = true ∧ (j = e.on ∨ (tab.getD e.on 0).testBit j = true)
  | [], m, h => .inl h
  | e :: es, m, h => by
    simp only [List.foldl_cons] at h
    rcases mask_bit tab j es _ h with h1 | ⟨e', he', h2⟩
    · split at h1
      · rename_i hb
        simp only [Nat.testBit_or, Bool.or_eq_true, Nat.one_shiftLeft, Nat.testBit_two_pow, decide_eq_true_eq] at h1
        rcases h1 with (h1 | h1) | h1
        · exact .inl h1
        · exact .inr ⟨e, by simp, hb, .inl h1.symm⟩
        · exact .inr ⟨e, by simp, hb, .inr h1⟩
      · exact .inl h1
    · exact .inr ⟨e', by simp [he'], h2⟩
theorem tabL_at : ∀ (r : List Oper) (tab : List Nat), (tabL r tab).length = tab.length + r.length ∧ (∀ k, k < tab.length → (tabL r tab)[k]? = tab[k]?) ∧
    ∀ (k : Nat) (o : Oper), r[k]? = some o → (tabL r tab)[tab.length + k]? = some (maskOf ((tabL r tab).take (tab.length + k)) o)
  | [], tab => ⟨by simp [tabL], fun _ _ => rfl, fun k o h => by simp at h⟩
  | o :: r, tab => by
    obtain ⟨h1, h2, h3⟩ := tabL_at r (tab ++ [maskOf tab o])
    refine ⟨by simp only [tabL, h1]; simp; omega, fun k hk => ?_, fun k o' hk => ?_⟩
    · simp only [tabL]
      rw [h2 k (by simp; omega), List.getElem?_append_left hk]
    · simp only [tabL]
      cases k with
      | zero =>
        simp at hk; subst hk
        rw [Nat.add_zero, h2 tab.length (by simp)]
        have : (tabL r (tab ++ [maskOf tab o])).take tab.length = tab := by
          apply List.ext_getElem?
          intro q
          rw [List.getElem?_take]
          by_cases hq : q < tab.length
          · rw [if_pos hq, h2 q (by simp; omega), List.getElem?_append_left hq]
          · rw [if_neg hq, List.getElem?_eq_none (by omega)]
        rw [this]; simp
      | succ k =>
        have := h3 k o' (by simpa using hk)
        simp only [List.length_append, List.length_cons, List.length_nil, Nat.zero_add] at this
        rw [show tab.length + (k + 1) = tab.length + 1 + k by omega]
        exact this
theorem anc_cases {i j : Nat} (h : anc ops i j = true) : ∃ o, ops[i]? = some o ∧ ∃ e ∈ o.after.toList, Region.binds .any e = true ∧ (j = e.on ∨ (e.on < i ∧ anc ops e.on j = true)) := by
  unfold anc at h
  obtain ⟨h1, _, h3⟩ := tabL_at ops.toList []
  have hlt : i < ops.size := by
    by_cases hi : i < ops.size
    · exact hi
    · rw [List.getD_eq_getElem?_getD, List.getElem?_eq_none (by rw [h1]; simp; omega)] at h; simp at h
  have ho : ops[i]? = some ops[i] := by simp [hlt]
  have hm := h3 i ops[i] (by rw [Array.getElem?_toList]; exact ho)
  simp only [List.length_nil, Nat.zero_add] at hm
  rw [List.getD_eq_getElem?_getD, hm] at h
  refine ⟨_, ho, ?_⟩
  rw [Option.getD_some] at h
  unfold maskOf at h
  rcases mask_bit _ j _ _ h with hz | ⟨e, he, hb, hc⟩
  · simp at hz
  · refine ⟨e, he, hb, hc.imp (fun q => q) fun hc => ?_⟩
    rw [List.getD_eq_getElem?_getD, List.getElem?_take] at hc
    split at hc
    · rename_i hl
      exact ⟨hl, by unfold anc; rw [List.getD_eq_getElem?_getD]; exact hc⟩
    · simp at hc
theorem ancs_listed {L : Nat → Bool} (hc : Closed ops L) : ∀ (i j : Nat), ReadyAt ops L i → anc ops i j = true → L j = true := by
  intro i
  induction i using Nat.strongRecOn with
  | _ i ih =>
    intro j hr h
    obtain ⟨o, ho, e, he, hb, h2⟩ := anc_cases h
    have hl := hr o ho e he hb
    rcases h2 with rfl | ⟨hlt, h2⟩
    · exact hl
    · exact ih e.on hlt j (fun o' ho' e' he' hb' => hc e.on o' hl ho' e' he' hb') h2
theorem ancs_lt (h : drawOk ops = true) : ∀ (i j : Nat), anc ops i j = true → j < i := by
  intro i
  induction i using Nat.strongRecOn with
  | _ i ih =>
    intro j h2
    obtain ⟨o, ho, e, he, hb, h3⟩ := anc_cases h2
    have hlt := (drawOk_at h ho).1 e he hb
    rcases h3 with rfl | ⟨_, h3⟩
    · exact hlt
    · exact Nat.lt_trans (ih e.on hlt j h3) hlt
theorem cntB_mono {p : Nat → Bool} {i j : Nat} (h : i ≤ j) : cntB p i ≤ cntB p j := by
  induction h with
  | refl => exact Nat.le_refl _
  | step h ih => simp only [cntB]; omega
theorem cntB_lt {p : Nat → Bool} {i j : Nat} (h : i < j) (hp : p i = true) : cntB p i < cntB p j := by
  have : cntB p (i + 1) ≤ cntB p j := cntB_mono h
  simp only [cntB, hp, if_true] at this
  omega
theorem cntB_congr {p q : Nat → Bool} : ∀ (n : Nat), (∀ i, i < n → p i = q i) → cntB p n = cntB q n
  | 0, _ => rfl
  | n + 1, h => by simp only [cntB]; rw [cntB_congr n fun i hi => h i (by omega), h n (by omega)]
theorem cntB_none {p : Nat → Bool} {m : Nat} : ∀ (n : Nat), m ≤ n → (∀ i, m ≤ i → i < n → p i = false) → cntB p n = cntB p m
  | 0, h, _ => by have : m = 0 := by omega
                  subst this; rfl
  | n + 1, h, hp => by
    by_cases e : m = n + 1
    · subst e; rfl
    · simp only [cntB, hp n (by omega) (by omega)]
      have := cntB_none n (by omega) fun i hi hj => hp i hi (by omega)
      simpa using this
/-- The heap operations that are listed are the first ones. -/
theorem heap_first (h : drawOk ops = true) {L : Nat → Bool} (hc : Closed ops L) {j : Nat} (hj : heapAt ops j = true) (hn : j < ops.size) :
    L j = true ↔ cntB (heapAt ops) j < cntB (fun i => heapAt ops i && L i) ops.size := by
  -- a listed one has all elder ones listed
  have elder : ∀ a b : Nat, a < b → heapAt ops a = true → heapAt ops b = true → L b = true → L a = true := by
    intro a b hab ha hb hlb
    obtain ⟨oa, hoa, ha⟩ := heapAt_some ha
    obtain ⟨ob, hob, hb⟩ := heapAt_some hb
    have hp := (drawOk_at h hob).2 a oa hoa
    simp only [pairOk, Bool.and_eq_true] at hp
    have h2 := hp.2
    simp only [ha, hb, Bool.and_self, Bool.not_true, Bool.false_or, Bool.or_eq_true, beq_iff_eq] at h2
    rcases h2 with (h2 | h2) | h2
    · omega
    · exact ancs_listed hc b a (fun o' ho' e' he' hb' => hc b o' hlb ho' e' he' hb') h2
    · have := ancs_lt h _ _ h2; omega
  constructor
  · intro hl
    have e1 : cntB (heapAt ops) j = cntB (fun i => heapAt ops i && L i) j := cntB_congr j fun i hi => by
      by_cases hh : heapAt ops i = true
      · simp [elder i j hi hh hj hl]
      · simp [hh]
    rw [e1]
    exact cntB_lt hn (by simp [hj, hl])
  · intro hlt
    by_cases hl : L j = true
    · exact hl
    · exfalso
      have e1 : cntB (fun i => heapAt ops i && L i) ops.size = cntB (fun i => heapAt ops i && L i) j := cntB_none ops.size (by omega) fun i hi hi2 => by
        by_cases hh : heapAt ops i = true
        · by_cases e : i = j
          · subst e; simp [hl]
          · cases hli : L i
            · simp
            · exact absurd (elder j i (by omega) hj hh hli) hl
        · simp [hh]
      have e2 : cntB (fun i => heapAt ops i && L i) j ≤ cntB (heapAt ops) j := by
        have : ∀ n, cntB (fun i => heapAt ops i && L i) n ≤ cntB (heapAt ops) n := by
          intro n
          induction n with
          | zero => exact Nat.le_refl _
          | succ n ih => simp only [cntB]; by_cases hh : heapAt ops n = true <;> by_cases hL : L n = true <;> simp [hh, hL] <;> omega
        exact this j
      omega
/-- A heap operation that is ready comes next. -/
theorem heap_next (h : drawOk ops = true) {L : Nat → Bool} (hc : Closed ops L) {j : Nat} (hj : heapAt ops j = true) (hn : j < ops.size) (hl : L j = false) (hr : ReadyAt ops L j) :
    cntB (fun i => heapAt ops i && L i) ops.size = cntB (heapAt ops) j := by
  have elder : ∀ a, a < j → heapAt ops a = true → L a = true := by
    intro a hab ha
    obtain ⟨oa, hoa, ha⟩ := heapAt_some ha
    obtain ⟨ob, hob, hj'⟩ := heapAt_some hj
    have hp := (drawOk_at h hob).2 a oa hoa
    simp only [pairOk, Bool.and_eq_true] at hp
    have h2 := hp.2
    simp only [ha, hj', Bool.and_self, Bool.not_true, Bool.false_or, Bool.or_eq_true, beq_iff_eq] at h2
    rcases h2 with (h2 | h2) | h2
    · omega
    · exact ancs_listed hc j a hr h2
    · have := ancs_lt h _ _ h2; omega
  have e1 : cntB (heapAt ops) j = cntB (fun i => heapAt ops i && L i) j := cntB_congr j fun i hi => by
    by_cases hh : heapAt ops i = true
    · simp [elder i hi hh]
    · simp [hh]
  rw [e1]
  refine cntB_none ops.size (by omega) fun i hi hi2 => ?_
  by_cases hh : heapAt ops i = true
  · by_cases e : i = j
    · subst e; simp [hl]
    · cases hli : L i
      · simp
      · have := (heap_first h hc hh hi2).1 hli
        have h3 : cntB (heapAt ops) j < cntB (heapAt ops) i := cntB_lt (by omega) hj
        have := (heap_first h hc hj hn).2 (by omega)
        rw [hl] at this; simp at this
  · simp [hh]
/-- Where an operation may stand. -/
theorem may_ok (h : drawOk ops = true) {L : Nat → Bool} (hc : Closed ops L) {i : Nat} (hl : L i = false) (hr : ReadyAt ops L i) : mayAt ops i (cntB (fun i => heapAt ops i && L i) ops.size) = true := by
  refine List.all_eq_true.2 fun j hj => ?_
  have hj' : j < ops.size := by simpa using hj
  by_cases hh : heapAt ops j = true
  · simp only [hh, Bool.not_true, Bool.false_or, Bool.and_eq_true, Bool.or_eq_true, Bool.not_eq_true', decide_eq_true_eq]
    constructor
    · by_cases hm : anc ops i j = true
      · exact .inr ((heap_first h hc hh hj').1 (ancs_listed hc _ _ hr hm))
      · exact .inl (by simpa using hm)
    · by_cases hm : anc ops j i = true
      · refine .inr (Nat.le_of_not_lt fun hlt => ?_)
        have hlj := (heap_first h hc hh hj').2 hlt
        have := ancs_listed hc j i (fun o' ho' e' he' hb' => hc j o' hlj ho' e' he' hb') hm
        rw [hl] at this; simp at this
      · exact .inl (by simpa using hm)
  · simp [hh]
end
end Go.Proofs.Ytbmejhabgoimeaa.Eng
set_option linter.unusedVariables false
set_option linter.unusedSimpArgs false
namespace Go.Proofs.Ytbmejhabgoimeaa.Eng
open Go Go.RowKit

section
variable {P : Program} {B : Nat} {t : List Value} {H : Heap} {Q : AQ} {ops : Array Oper}

/-- A variable that was laid ahead is made. -/
theorem HRel.adopt {w0 w : World} {ι : Ren} (h : HRel w0 ι H w) {id : Nat} {b : Blk} {e : TypeId} (hi : ι id = none) (hb : H[id]? = some (some b)) (hf : ∀ v ∈ b.cells, flatV v = true) :
    HRel w0 (upd ι id ⟨w.heap.size, 0, b.cells.length, b.sz⟩) H (w.alloc (.cells ⟨b.cells⟩ e)) := by
  have hext : ∀ j L, ι j = some L → upd ι id ⟨w.heap.size, 0, b.cells.length, b.sz⟩ j = some L := fun j L hj => by
    by_cases e : j = id
    · subst e; rw [hi] at hj; simp at hj
    · simp [upd, e, hj]
  have updo : ∀ j, j ≠ id → upd ι id ⟨w.heap.size, 0, b.cells.length, b.sz⟩ j = ι j := fun j e => by simp [upd, e]
  have updn : upd ι id ⟨w.heap.size, 0, b.cells.length, b.sz⟩ id = some ⟨w.heap.size, 0, b.cells.length, b.sz⟩ := by simp [upd]
  have hnew := heap_alloc_new w (.cells ⟨b.cells⟩ e)
  have hold : ∀ k, k < w.heap.size → (w.alloc (.cells ⟨b.cells⟩ e)).heap[k]? = w.heap[k]? := fun k hk => heap_alloc_old w _ k hk
  refine ⟨h.below.trans ⟨rfl, rfl, rfl, ?_, fun k hk => hold k (by have := h.n0; omega)⟩, ?_, ?_, ?_, h.flat, ?_⟩
  · show w.heap.size ≤ (w.heap.push _).size; simp
  · intro j L hj
    by_cases e : j = id
    · subst e; exact (List.getElem?_eq_some_iff.1 hb).1
    · rw [updo j e] at hj; exact h.dom j L hj
  · intro j L b1 hj hbj
    by_cases e : j = id
    · subst e
      rw [updn] at hj; obtain rfl := Option.some.inj hj
      rw [hb] at hbj; obtain rfl := Option.some.inj (Option.some.inj hbj)
      refine ⟨_, _, _, hnew, by simp, Nat.le_refl _, rfl, fun k v hv => ⟨v, by simpa using hv, .flat (hf v (List.mem_of_getElem? hv))⟩, fun _ => ⟨h.n0, rfl⟩⟩
    · rw [updo j e] at hj
      obtain ⟨c, e1, fr, hc, h1, h2, h3, h4, h5⟩ := h.blk j L b1 hj hbj
      refine ⟨c, e1, fr, ?_, h1, h2, h3, fun k v hv => ?_, h5⟩
      · rw [hold _ (Array.getElem?_eq_some_iff.1 hc).1]; exact hc
      · obtain ⟨v', g1, g2⟩ := h4 k v hv; exact ⟨v', g1, g2.mono hext⟩
  · intro i j L M b1 b2 hi1 hj1 hne h1 hw h2
    by_cases e1 : i = id
    · subst e1
      rw [updn] at hi1; obtain rfl := Option.some.inj hi1
      rw [updo j (Ne.symm hne)] at hj1
      have := h.lt hj1 h2
      simp only; omega
    · rw [updo i e1] at hi1
      by_cases e2 : j = id
      · subst e2
        rw [updn] at hj1; obtain rfl := Option.some.inj hj1
        have := h.lt hi1 h1
        simp only; omega
      · rw [updo j e2] at hj1
        exact h.sep i j L M b1 b2 hi1 hj1 hne h1 hw h2
  · intro j b1 hbj
    exact (h.tot j b1 hbj).imp (fun ⟨L, hL⟩ => ⟨L, hext _ _ hL⟩) (fun q => q)

/-- Whether a variable is written by an operation that has not run. -/
def unl (ops : Array Oper) (L : Nat → Bool) (j : Nat) : Bool := (List.range ops.size).any fun i => match ops[i]? with | some o => !L i && o.dst == some j | none => false
def maskT (ops : Array Oper) (L : Nat → Bool) (t0 tf : List Value) : List Value := tf.mapIdx fun j v => if unl ops L j = true then (t0[j]?).getD dead else v
theorem mask_get (L : Nat → Bool) (t0 tf : List Value) (j : Nat) : (maskT ops L t0 tf)[j]? = tf[j]?.map fun v => if unl ops L j = true then (t0[j]?).getD dead else v := by
  simp [maskT, List.getElem?_mapIdx]
theorem unl_iff {L : Nat → Bool} {j : Nat} : unl ops L j = true ↔ ∃ i o, ops[i]? = some o ∧ L i = false ∧ o.dst = some j := by
  unfold unl
  rw [List.any_eq_true]
  constructor
  · rintro ⟨i, hi, h⟩
    split at h
    · rename_i o ho
      simp only [Bool.and_eq_true, Bool.not_eq_true', beq_iff_eq] at h
      exact ⟨i, o, ho, h.1, h.2⟩
    · simp at h
  · rintro ⟨i, o, ho, h1, h2⟩
    exact ⟨i, by simpa using (Array.getElem?_eq_some_iff.1 ho).1, by simp [ho, h1, h2]⟩

/-- What an operation that changes the heap does. -/
def DoesP (P : Program) (B : Nat) (o : Oper) (t : List Value) (H : Heap) (v : Value) (H' : Heap) : Prop :=
  opA (tyOf P) (eqOf P) B t H o = some (v, H') ∨
  ∃ (fo : Operand) (args : Array Operand) (tys : Array TypeId) (f : FuncId) (caps as : List Value), o.op = .call ⟨.value fo, args, tys⟩ ∧ evL t fo = some (.func (.func f) #[] ⟨caps⟩) ∧ evAllL t args.toList = some as ∧ Runs P f (as ++ caps) H (fun u G => u = v ∧ G = H')
theorem DoesP.congr {o : Oper} {t t' : List Value} {v : Value} {H' : Heap} (h : ∀ x ∈ o.op.operands, ev t' x = ev t x) (hd : DoesP P B o t H v H') : DoesP P B o t' H v H' := by
  have hL : ∀ x ∈ o.op.operands, evL t' x = evL t x := fun x hx => by simp only [evL, h x hx]
  rcases hd with hd | ⟨fo, args, tys, f, caps, as, e1, e2, e3, e4⟩
  · exact .inl (by rw [opA_congr h]; exact hd)
  · refine .inr ⟨fo, args, tys, f, caps, as, e1, ?_, ?_, e4⟩
    · rw [hL fo (by rw [e1]; simp [Op.operands, Call.operands])]; exact e2
    · rw [evAllL_congr args.toList fun x hx => hL x (by rw [e1]; simp [Op.operands, Call.operands]; exact .inr (by simpa using hx))]; exact e3
theorem DoesP.step {o : Oper} {t : List Value} {v : Value} {H' : Heap} (hd : DoesP P B o t H v H') : OpX P B o t H (fun u G => u = v ∧ G = H') := by
  rcases hd with hd | ⟨fo, args, tys, f, caps, as, e1, e2, e3, e4⟩
  · exact op_step hd ⟨rfl, rfl⟩
  · exact OpX_call e1 e2 e3 e4 fun u G h => h
/-- What an operation that leaves the heap alone does: a variable that is made was laid ahead. -/
def ReadP (P : Program) (B : Nat) (o : Oper) (t : List Value) (H : Heap) (v : Value) (id : Nat) : Prop :=
  match o.op with
  | .alloc e => ∃ d, tyOf P e = some d ∧ v = .pointer (some ⟨id, 0, none⟩) ∧ getB H id = some ⟨d.zero, 0, true, d.fl⟩
  | _ => opA (tyOf P) (eqOf P) B t H o = some (v, H)

structure Facts (P : Program) (B : Nat) (ops : Array Oper) (base : Nat) (t0 tf : List Value) (Tf : Nat → List Value) (W : Nat → Bool) (V : Nat → Value) (Hs : Nat → Heap) : Prop where
  ok : drawOk ops = true
  want : ∀ (i : Nat) (o : Oper), ops[i]? = some o → wantedA ops o (Tf i) = some (W i)
  skip : ∀ (i : Nat) (o : Oper), ops[i]? = some o → W i = false → V i = undef
  heap : ∀ (i : Nat) (o : Oper), ops[i]? = some o → isHeapO o = true → if W i = true then DoesP P B o (Tf i) (Hs (cntB (heapAt ops) i)) (V i) (Hs (cntB (heapAt ops) i + 1)) else Hs (cntB (heapAt ops) i + 1) = Hs (cntB (heapAt ops) i)
  read : ∀ (i : Nat) (o : Oper) (k : Nat), ops[i]? = some o → isHeapO o = false → W i = true → mayAt ops i k = true → k ≤ cntB (heapAt ops) ops.size → ReadP P B o (Tf i) (Hs k) (V i) (base + cntB (allocAt ops) i)
  frameL : ∀ (i : Nat) (o : Oper) (x : Nat), ops[i]? = some o → x ∈ o.looksAt ops → (∃ j oj, ops[j]? = some oj ∧ oj.dst = some x ∧ i ≤ j) → (Tf i)[x]? = t0[x]?
  frameE : ∀ (i : Nat) (o : Oper) (x : Nat), ops[i]? = some o → x ∈ o.looksAt ops → (¬ ∃ j oj, ops[j]? = some oj ∧ oj.dst = some x ∧ i ≤ j) → (Tf i)[x]? = tf[x]?
  len0 : t0.length = tf.length
  dst : ∀ (i : Nat) (o : Oper) (d : Nat) (v : Value), ops[i]? = some o → o.dst = some d → tf[d]? = some v → v = V i

theorem operand_known {base : Nat} {t0 tf : List Value} {Tf : Nat → List Value} {W : Nat → Bool} {V : Nat → Value} {Hs : Nat → Heap} (F : Facts P B ops base t0 tf Tf W V Hs) {L : Nat → Bool} (hc : Closed ops L) {i : Nat} {o : Oper} (hi : ops[i]? = some o) (hl : L i = false) (hr : ReadyAt ops L i) {x : Nat} (hx : x ∈ o.looksAt ops) : (maskT ops L t0 tf)[x]? = (Tf i)[x]? := by
  rw [mask_get]
  by_cases h : unl ops L x = true
  · obtain ⟨j, oj, hj, hlj, hd⟩ := unl_iff.1 h
    have hp := (drawOk_at F.ok hi).2 j oj hj
    simp only [pairOk, hd, Bool.and_eq_true, Bool.or_eq_true, Bool.not_eq_true'] at hp
    have hlt : i < j := by
      rcases hp.1.1 with (h1 | h1) | h1
      · have : (o.looksAt ops).contains x = true := by simpa using hx
        rw [h1] at this; simp at this
      · have := ancs_listed hc _ _ hr h1
        rw [hlj] at this; simp at this
      · exact ancs_lt F.ok _ _ h1
    rw [F.frameL i o x hi hx ⟨j, oj, hj, hd, by omega⟩]
    simp only [h, if_true]
    by_cases hxl : x < tf.length
    · have hxl0 : x < t0.length := by rw [F.len0]; exact hxl
      rw [List.getElem?_eq_getElem hxl, List.getElem?_eq_getElem hxl0]; rfl
    · have hl0 := F.len0
      rw [List.getElem?_eq_none (show tf.length ≤ x by omega), List.getElem?_eq_none (show t0.length ≤ x by omega)]; rfl
  · have hno : ¬ ∃ j oj, ops[j]? = some oj ∧ oj.dst = some x ∧ i ≤ j := by
      rintro ⟨j, oj, hj, hd, hij⟩
      have hlj : L j = true := by
        cases q : L j
        · exact absurd (unl_iff.2 ⟨j, oj, hj, q, hd⟩) h
        · rfl
      have hp := (drawOk_at F.ok hi).2 j oj hj
      simp only [pairOk, hd, Bool.and_eq_true, Bool.or_eq_true, Bool.not_eq_true'] at hp
      rcases hp.1.1 with (h1 | h1) | h1
      · have : (o.looksAt ops).contains x = true := by simpa using hx
        rw [h1] at this; simp at this
      · have := ancs_lt F.ok _ _ h1; omega
      · have := ancs_listed hc j i (fun o' ho' e' he' hb' => hc j o' hlj ho' e' he' hb') h1
        rw [hl] at this; simp at this
    rw [F.frameE i o x hi hx hno]
    have h' : unl ops L x = false := by simpa using h
    simp [h']
theorem ev_known {base : Nat} {t0 tf : List Value} {Tf : Nat → List Value} {W : Nat → Bool} {V : Nat → Value} {Hs : Nat → Heap} (F : Facts P B ops base t0 tf Tf W V Hs) {L : Nat → Bool} (hc : Closed ops L) {i : Nat} {o : Oper} (hi : ops[i]? = some o) (hl : L i = false) (hr : ReadyAt ops L i) : ∀ x ∈ o.op.operands, ev (maskT ops L t0 tf) x = ev (Tf i) x := by
  intro x hx
  cases x with
  | tmp y =>
    simp only [ev]
    refine operand_known F hc hi hl hr ?_
    unfold Oper.looksAt
    exact List.mem_append_left _ (List.mem_filterMap.2 ⟨.tmp y, by simpa using hx, rfl⟩)
  | _ => rfl
theorem want_known {base : Nat} {t0 tf : List Value} {Tf : Nat → List Value} {W : Nat → Bool} {V : Nat → Value} {Hs : Nat → Heap} (F : Facts P B ops base t0 tf Tf W V Hs) {L : Nat → Bool} (hc : Closed ops L) {i : Nat} {o : Oper} (hi : ops[i]? = some o) (hl : L i = false) (hr : ReadyAt ops L i) : wantedA ops o (maskT ops L t0 tf) = wantedA ops o (Tf i) := by
  unfold wantedA
  cases hg : o.guard with
  | none => rfl
  | some gw =>
    obtain ⟨g, want⟩ := gw
    simp only
    cases hd : (ops[g]?).bind (·.dst) with
    | none => rfl
    | some d =>
      simp only [Option.bind_some]
      rw [operand_known F hc hi hl hr (x := d)]
      unfold Oper.looksAt
      refine List.mem_append_right _ ?_
      simp [hg, hd]
/-- One more operation has run. -/
theorem mask_step {L : Nat → Bool} {t0 tf : List Value} {Tf : Nat → List Value} {W : Nat → Bool} {V : Nat → Value} {Hs : Nat → Heap} {base : Nat} (F : Facts P B ops base t0 tf Tf W V Hs) {i : Nat} {o : Oper} (hi : ops[i]? = some o) {ι : Ren} {a : Act} {v' : Value}
    (h : TS ι (maskT ops L t0 tf) a.tmps) (hv : TRel ι (V i) v') : TS ι (maskT ops (fun j => j == i || L j) t0 tf) (a.put o.dst v').tmps := by
  have hp := h.putT o.dst hv
  refine ⟨by rw [← hp.1]; cases o.dst <;> simp [putT, maskT], fun j v u h1 h2 => ?_⟩
  rw [mask_get] at h1
  cases htf : tf[j]? with
  | none => simp [htf] at h1
  | some w =>
    simp only [htf, Option.map_some, Option.some.injEq] at h1
    have hj : j < tf.length := (List.getElem?_eq_some_iff.1 htf).1
    by_cases hd : o.dst = some j
    · -- its own variable
      have hu : unl ops (fun j => j == i || L j) j = false := by
        cases hq : unl ops (fun j => j == i || L j) j
        · rfl
        · exfalso
          obtain ⟨k, ok, hk, hl, hdk⟩ := unl_iff.1 hq
          have hp2 := (drawOk_at F.ok hi).2 k ok hk
          simp only [pairOk, hdk, Bool.and_eq_true, Bool.or_eq_true, beq_iff_eq, bne_iff_ne] at hp2
          rcases hp2.1.2 with e | e
          · subst e; simp at hl
          · exact e hd
      simp only [hu, Bool.false_eq_true, if_false] at h1
      have hvi := F.dst i o j w hi hd htf
      refine hp.2 j v u ?_ h2
      rw [hd]
      simp only [putT]
      rw [List.getElem?_set]
      simp [maskT, hj, ← h1, hvi]
    · -- another's
      refine hp.2 j v u ?_ h2
      have : (putT (maskT ops L t0 tf) o.dst (V i))[j]? = (maskT ops L t0 tf)[j]? := by
        cases hd2 : o.dst with
        | none => rfl
        | some d => simp only [putT]; rw [List.getElem?_set, if_neg (fun e => hd (by rw [hd2, e]))]
      rw [this, mask_get, htf]
      simp only [Option.map_some, Option.some.injEq]
      rw [← h1]
      have : unl ops L j = unl ops (fun j => j == i || L j) j := by
        rw [Bool.eq_iff_iff, unl_iff, unl_iff]
        constructor
        · rintro ⟨k, ok, hk, hl, hdk⟩
          refine ⟨k, ok, hk, ?_, hdk⟩
          have : k ≠ i := fun e => by subst e; rw [hi] at hk; obtain rfl := Option.some.inj hk; exact hd hdk
          simp [this, hl]
        · rintro ⟨k, ok, hk, hl, hdk⟩
          refine ⟨k, ok, hk, ?_, hdk⟩
          simp at hl; exact hl.2
      rw [this]
end
end Go.Proofs.Ytbmejhabgoimeaa.Eng
set_option linter.unusedVariables false
set_option linter.unusedSimpArgs false
namespace Go.Proofs.Ytbmejhabgoimeaa.Eng
open Go Go.RowKit

section
variable {P : Program} {B : Nat} {t : List Value} {H : Heap} {Q : AQ} {ops : Array Oper}

/-- What holds while a region runs in an order that was drawn. -/
structure DInv (P : Program) (B : Nat) (ops : Array Oper) (base : Nat) (t0 tf : List Value) (Hs : Nat → Heap) (w0 : World) (ι0 : Ren) (H0 : Heap) (L : Nat → Bool) (ι : Ren) (a : Act) (w : World) : Prop where
  closed : Closed ops L
  ts : TS ι (maskT ops L t0 tf) a.tmps
  df : a.defers = []
  rel : HRel w0 ι (Hs (cntB (fun i => heapAt ops i && L i) ops.size)) w
  oc : OC B (Hs (cntB (fun i => heapAt ops i && L i) ops.size))
  ext : Ext B ι0 ι
  ocs : OCs B H0 (Hs (cntB (fun i => heapAt ops i && L i) ops.size))
  lb : B ≤ base
  len : base + cntB (allocAt ops) ops.size ≤ (Hs (cntB (fun i => heapAt ops i && L i) ops.size)).length
  fresh : ∀ i, i < ops.size → allocAt ops i = true → L i = false → ι (base + cntB (allocAt ops) i) = none

theorem closed_step {L : Nat → Bool} (hc : Closed ops L) {i : Nat} (hr : ReadyAt ops L i) : Closed ops (fun j => j == i || L j) := fun j o hl ho e he hb => by
  simp only [Bool.or_eq_true, beq_iff_eq] at hl ⊢
  rcases hl with rfl | hl
  · exact .inr (hr o ho e he hb)
  · exact .inr (hc j o hl ho e he hb)
theorem cntB_add {p : Nat → Bool} {i : Nat} : ∀ (n : Nat), i < n → p i = false → cntB (fun j => j == i || p j) n = cntB p n + 1
  | 0, h, _ => by omega
  | n + 1, h, hp => by
    simp only [cntB]
    by_cases e : i = n
    · subst e
      have : cntB (fun j => j == i || p j) i = cntB p i := cntB_congr i fun k hk => by simp [Nat.ne_of_lt hk]
      simp [this, hp]
    · rw [cntB_add n (by omega) hp]
      have : (n == i) = false := by simp; exact fun q => e q.symm
      simp only [this, Bool.false_or]
      omega
theorem cnt_heap {L : Nat → Bool} {i : Nat} (hn : i < ops.size) (hl : L i = false) (hh : heapAt ops i = true) : cntB (fun j => heapAt ops j && (j == i || L j)) ops.size = cntB (fun j => heapAt ops j && L j) ops.size + 1 := by
  rw [← cntB_add (p := fun j => heapAt ops j && L j) ops.size hn (by simp [hl])]
  refine cntB_congr _ fun k _ => ?_
  by_cases e : k = i
  · subst e; simp [hh]
  · have e' : (k == i) = false := by simpa using e
    simp only [e', Bool.false_or]
theorem cnt_calm {L : Nat → Bool} {i : Nat} (hh : heapAt ops i = false) : cntB (fun j => heapAt ops j && (j == i || L j)) ops.size = cntB (fun j => heapAt ops j && L j) ops.size := by
  refine cntB_congr _ fun k _ => ?_
  by_cases e : k = i
  · subst e; simp [hh]
  · have e' : (k == i) = false := by simpa using e
    simp only [e', Bool.false_or]
theorem alloc_inj {i j : Nat} (hi : allocAt ops i = true) (hj : allocAt ops j = true) (h : cntB (allocAt ops) i = cntB (allocAt ops) j) : i = j := by
  rcases Nat.lt_trichotomy i j with q | q | q
  · have := cntB_lt (p := allocAt ops) q hi; omega
  · exact q
  · have := cntB_lt (p := allocAt ops) q hj; omega
theorem cntB_le {p : Nat → Bool} {i n : Nat} (hi : i < n) (hp : p i = true) : cntB p i < cntB p n := cntB_lt hi hp
theorem cntB_sub {p q : Nat → Bool} : ∀ (n : Nat), (∀ i, p i = true → q i = true) → cntB p n ≤ cntB q n
  | 0, _ => Nat.le_refl _
  | n + 1, h => by
    have := cntB_sub n h
    simp only [cntB]
    by_cases e : p n = true
    · simp [e, h n e]; exact this
    · simp [e]; omega

/-- One operation, wherever it is drawn. -/
theorem draw_step {base : Nat} {t0 tf : List Value} {Tf : Nat → List Value} {W : Nat → Bool} {V : Nat → Value} {Hs : Nat → Heap} (F : Facts P B ops base t0 tf Tf W V Hs) {w0 : World} {ι0 : Ren} {H0 : Heap} {L : Nat → Bool} {ι : Ren} {a : Act} {w : World} (I : DInv P B ops base t0 tf Hs w0 ι0 H0 L ι a w)
    {i : Nat} {o : Oper} (hi : ops[i]? = some o) (hl : L i = false) (hr : ReadyAt ops L i) {Qx : Exit → Act → World → Prop} {K : Act → World → Prop}
    (hK : ∀ ι' a' w', DInv P B ops base t0 tf Hs w0 ι0 H0 (fun j => j == i || L j) ι' a' w' → K a' w') : wpOp P ops Qx i K a w := by
  have hn : i < ops.size := (Array.getElem?_eq_some_iff.1 hi).1
  have hw := want_known F I.closed hi hl hr
  rw [F.want i o hi] at hw
  have hwr := wantedA_run I.ts hw
  have hcl := closed_step I.closed hr
  have hev := ev_known F I.closed hi hl hr
  have hlen : B ≤ (Hs (cntB (fun i => heapAt ops i && L i) ops.size)).length := by have := I.lb; have := I.len; omega
  have hheap : heapAt ops i = isHeapO o := by simp [heapAt, hi]
  have halloc : allocAt ops i = isAllocO o := by simp [allocAt, hi]
  -- a step that leaves the heap's count as it is told
  have fin : ∀ (ι' : Ren) (v' : Value) (w' : World) (k' : Nat), k' = cntB (fun j => heapAt ops j && (j == i || L j)) ops.size → HRel w0 ι' (Hs k') w' → TRel ι' (V i) v' → (∀ id L, ι id = some L → ι' id = some L) → Ext B ι ι' →
      OCs B (Hs (cntB (fun i => heapAt ops i && L i) ops.size)) (Hs k') → (Hs (cntB (fun i => heapAt ops i && L i) ops.size)).length ≤ (Hs k').length → (∀ j, j < ops.size → allocAt ops j = true → j ≠ i → L j = false → ι' (base + cntB (allocAt ops) j) = none) → K (a.put o.dst v') w' := by
    intro ι' v' w' k' hk h1 h2 h3 h4 h5 h6 h7
    subst hk
    refine hK ι' _ w' ⟨hcl, mask_step F hi (I.ts.mono h3) h2, by cases o.dst <;> exact I.df, h1, h5 B (Nat.le_refl _) I.oc, I.ext.trans h4 (Nat.le_refl _), I.ocs.trans h5, I.lb, Nat.le_trans I.len h6, fun j hj ha hlj => ?_⟩
    simp only [Bool.or_eq_false_iff, beq_eq_false_iff_ne] at hlj
    exact h7 j hj ha hlj.1 hlj.2
  unfold wpOp
  rw [hi]
  simp only
  rw [hwr]
  cases hW : W i with
  | false =>
    simp only [Bool.false_eq_true, if_false]
    have hv : TRel ι (V i) undef := by rw [F.skip i o hi hW]; exact .inr (undef_rel ι)
    cases hh : heapAt ops i with
    | false =>
      exact fin ι undef w _ (cnt_calm hh).symm I.rel hv (fun _ _ h => h) (.refl _ _) (.refl _ _) (Nat.le_refl _) (fun j hj ha _ hlj => I.fresh j hj ha hlj)
    | true =>
      have hpos := heap_next F.ok I.closed hh hn hl hr
      have hf := F.heap i o hi (by rw [← hheap]; exact hh)
      rw [hW] at hf
      simp only [Bool.false_eq_true, if_false] at hf
      rw [← hpos] at hf
      refine fin ι undef w _ (cnt_heap hn hl hh).symm ?_ hv (fun _ _ h => h) (.refl _ _) ?_ ?_ (fun j hj ha _ hlj => I.fresh j hj ha hlj)
      · rw [hf]; exact I.rel
      · rw [hf]; exact .refl _ _
      · rw [hf]; exact Nat.le_refl _
  | true =>
    simp only [if_true]
    refine .inl ?_
    have other : ∀ ι', Ext (Hs (cntB (fun i => heapAt ops i && L i) ops.size)).length ι ι' → ∀ j, j < ops.size → allocAt ops j = true → L j = false → ι' (base + cntB (allocAt ops) j) = none := fun ι' hE j hj ha hlj => by
      rw [hE _ (by have := I.len; have := cntB_le (p := allocAt ops) hj ha; omega)]
      exact I.fresh j hj ha hlj
    cases hh : heapAt ops i with
    | true =>
      have hpos := heap_next F.ok I.closed hh hn hl hr
      have hf := F.heap i o hi (by rw [← hheap]; exact hh)
      rw [hW] at hf
      simp only [if_true] at hf
      rw [← hpos] at hf
      have hd := (hf.congr hev).step
      refine Oper.wp_mono ?_ (hd w0 ι w a Qx I.rel I.ts hlen)
      rintro a' w' ⟨v, v', H', ι', rfl, ⟨rfl, rfl⟩, h2, h3, h4, h5, h6⟩
      exact fin ι' v' w' _ (cnt_heap hn hl hh).symm h3 h2 (I.rel.ext h4) (h4.mono hlen) h5 h6 (fun j hj ha _ hlj => other ι' h4 j hj ha hlj)
    | false =>
      have hk : cntB (fun i => heapAt ops i && L i) ops.size ≤ cntB (heapAt ops) ops.size := cntB_sub _ fun j hj => by simp at hj; exact hj.1
      have hf := F.read i o _ hi (by rw [← hheap]; exact hh) hW (may_ok F.ok I.closed hl hr) hk
      by_cases ha : isAllocO o = true
      · obtain ⟨dd, op, ty, ps, af, g⟩ := o
        cases op <;> simp [isAllocO] at ha
        rename_i e
        simp only [ReadP] at hf
        obtain ⟨d, hT, hV, hb⟩ := hf
        have hid := I.fresh i hn (by rw [halloc]; rfl) hl
        obtain ⟨z, hz, hzc⟩ := (tyOf_ok P).zeroValue (w := w) hT
        have hfl := ((tyOf_ok P) _ d hT).zflat
        have hfl' : ∀ v ∈ d.zero, flatV v = true := fun v hv => (List.all_eq_true.1 hfl) v hv
        have hrun : (execOp a.eval ⟨dd, .alloc e, ty, ps, af, g⟩).run P w = .ok (.value (.pointer (some ⟨w.heap.size, 0, none⟩))) (w.alloc (.cells ⟨d.zero⟩ e)) := by
          have : z.cells = ⟨d.zero⟩ := Array.ext' hzc
          simp [execOp, Instr.alloc, hz, newVar, newRow, this]
        have had := I.rel.adopt (e := e) hid (getB_eq.1 hb) hfl'
        unfold Oper.wp
        rw [hrun]
        refine fin _ _ _ _ (cnt_calm hh).symm had (.inr ?_) ?_ ?_ (.refl _ _) (Nat.le_refl _) ?_
        · rw [hV]; exact .ptr _ 0 ⟨w.heap.size, 0, d.zero.length, 0⟩ (by simp [upd])
        · intro id M hM
          by_cases e1 : id = base + cntB (allocAt ops) i
          · subst e1; rw [hid] at hM; simp at hM
          · simp [upd, e1, hM]
        · intro id hlt
          have := I.lb
          simp [upd, show id ≠ base + cntB (allocAt ops) i by omega]
        · intro j hj haj hne hlj
          have : base + cntB (allocAt ops) j ≠ base + cntB (allocAt ops) i := fun e1 => hne (alloc_inj haj (by rw [halloc]; rfl) (by omega))
          simp only [upd, this, if_false]
          exact I.fresh j hj haj hlj
      · have hop : opA (tyOf P) (eqOf P) B (Tf i) (Hs (cntB (fun i => heapAt ops i && L i) ops.size)) o = some (V i, Hs (cntB (fun i => heapAt ops i && L i) ops.size)) := by
          unfold ReadP at hf
          split at hf
          · rename_i e he; simp [isAllocO, he] at ha
          · exact hf
        rw [← opA_congr hev] at hop
        have hd := op_step (K := fun u G => u = V i ∧ G = Hs (cntB (fun i => heapAt ops i && L i) ops.size)) hop ⟨rfl, rfl⟩
        refine Oper.wp_mono ?_ (hd w0 ι w a Qx I.rel I.ts hlen)
        rintro a' w' ⟨v, v', H', ι', rfl, ⟨rfl, rfl⟩, h2, h3, h4, h5, h6⟩
        exact fin ι' v' w' _ (cnt_calm hh).symm h3 h2 (I.rel.ext h4) (h4.mono hlen) h5 h6 (fun j hj ha _ hlj => other ι' h4 j hj ha hlj)

theorem listed_get {listed : Array Bool} {i : Nat} (hn : i < listed.size) : (fun j => j == i || listed.getD j false) = fun j => (listed.setIfInBounds i true).getD j false := by
  funext j
  simp only [Array.getD_eq_getD_getElem?, Array.getElem?_setIfInBounds]
  by_cases e : i = j
  · subst e; simp [hn]
  · have e' : (j == i) = false := by simp; exact fun q => e q.symm
    simp [e, e']
theorem ready_at {listed : Array Bool} {i : Nat} (hs : listed.size = ops.size) (h : i ∈ Region.ready .any ops listed) : ∃ o, ops[i]? = some o ∧ listed.getD i false = false ∧ ReadyAt ops (fun j => listed.getD j false) i := by
  unfold Region.ready at h
  obtain ⟨h1, h2⟩ := List.mem_filter.1 h
  have hn : i < ops.size := by simpa using h1
  simp only [Bool.and_eq_true, Bool.not_eq_true'] at h2
  refine ⟨ops[i], by simp [hn], ?_, ?_⟩
  · have := h2.1
    simp only [Array.getD_eq_getD_getElem?, Array.getElem?_eq_getElem (show i < listed.size by omega), Option.getD_some] at this ⊢
    exact this
  · intro o ho e he hb
    have h3 := h2.2
    rw [ho] at h3
    simp only [Option.map_some, Option.getD_some, Array.all_eq_true'] at h3
    have := h3 e (by simpa using he)
    simpa [hb] using this
theorem ready_none (hok : drawOk ops = true) {listed : Array Bool} (hs : listed.size = ops.size) (h : Region.ready .any ops listed = []) : ∀ i, i < ops.size → listed.getD i false = true := by
  intro i
  induction i using Nat.strongRecOn with
  | _ i ih =>
    intro hn
    cases hl : listed.getD i false
    · exfalso
      have hm : i ∈ Region.ready .any ops listed := by
        unfold Region.ready
        refine List.mem_filter.2 ⟨by simpa using hn, ?_⟩
        have ho : ops[i]? = some ops[i] := by simp [hn]
        rw [ho]
        simp only [Option.map_some, Option.getD_some, Bool.and_eq_true, Bool.not_eq_true', Array.all_eq_true']
        refine ⟨?_, fun e he => ?_⟩
        · simp only [Array.getD_eq_getD_getElem?, Array.getElem?_eq_getElem (show i < listed.size by omega), Option.getD_some] at hl ⊢
          exact hl
        · cases hb : Region.binds .any e with
          | false => simp
          | true =>
            have hlt := (drawOk_at hok ho).1 e (by simpa using he) hb
            rw [ih e.on hlt (by omega)]; simp
      rw [h] at hm; simp at hm
    · rfl
theorem mask_all {L : Nat → Bool} {t0 tf : List Value} (h : ∀ i, i < ops.size → L i = true) : maskT ops L t0 tf = tf := by
  apply List.ext_getElem?
  intro j
  rw [mask_get]
  have : unl ops L j = false := by
    cases hq : unl ops L j
    · rfl
    · obtain ⟨i, o, hi, hl, _⟩ := unl_iff.1 hq
      have := h i (Array.getElem?_eq_some_iff.1 hi).1
      rw [hl] at this; simp at this
  simp [this]

theorem draw_any {base : Nat} {t0 tf : List Value} {Tf : Nat → List Value} {W : Nat → Bool} {V : Nat → Value} {Hs : Nat → Heap} (F : Facts P B ops base t0 tf Tf W V Hs) {w0 : World} {ι0 : Ren} {H0 : Heap} (hq : Q .normal tf (Hs (cntB (heapAt ops) ops.size))) :
    ∀ (fuel : Nat) (listed : Array Bool) (ι : Ren) (a : Act) (w : World), listed.size = ops.size → fuel + cntB (fun j => listed.getD j false) ops.size = ops.size → DInv P B ops base t0 tf Hs w0 ι0 H0 (fun j => listed.getD j false) ι a w →
      wpAny P .any ops (Post w0 ι0 B H0 Q) fuel listed a w := by
  have done : ∀ (listed : Array Bool) (ι : Ren) (a : Act) (w : World), (∀ i, i < ops.size → listed.getD i false = true) → DInv P B ops base t0 tf Hs w0 ι0 H0 (fun j => listed.getD j false) ι a w → Post w0 ι0 B H0 Q .normal a w := by
    intro listed ι a w hall I
    have e : cntB (fun i => heapAt ops i && listed.getD i false) ops.size = cntB (heapAt ops) ops.size := cntB_congr _ fun i hi => by simp only [hall i hi, Bool.and_true]
    have h1 := I.rel; have h2 := I.ts; have h3 := I.ocs; have h4 := I.len; have h5 := I.lb
    rw [e] at h1 h3 h4
    rw [mask_all hall] at h2
    exact ⟨tf, _, ι, hq, h1, h2, I.df, I.ext, h3, by omega⟩
  intro fuel
  induction fuel with
  | zero =>
    intro listed ι a w hs hf I
    have hall : ∀ i, i < ops.size → listed.getD i false = true := by
      have key : ∀ (p : Nat → Bool) (n : Nat), cntB p n = n → ∀ i, i < n → p i = true := by
        intro p n
        have hle : ∀ n, cntB p n ≤ n := by
          intro n; induction n with
          | zero => exact Nat.le_refl _
          | succ n ih => simp only [cntB]; split <;> omega
        induction n with
        | zero => intro _ i hi; omega
        | succ n ih =>
          intro h i hi
          simp only [cntB] at h
          have := hle n
          by_cases hp : p n = true
          · by_cases e : i = n
            · subst e; exact hp
            · exact ih (by simp only [hp, if_true] at h; omega) i (by omega)
          · simp only [hp] at h; simp at h; omega
      exact key _ _ (by omega)
    refine ⟨?_, done listed ι a w hall I⟩
    unfold Region.ready
    refine List.filter_eq_nil_iff.2 fun i hi => ?_
    have hn : i < ops.size := by simpa using hi
    have := hall i hn
    simp only [Array.getD_eq_getD_getElem?, Array.getElem?_eq_getElem (show i < listed.size by omega), Option.getD_some] at this ⊢
    simp [this]
  | succ fuel ih =>
    intro listed ι a w hs hf I
    refine ⟨fun hr => done listed ι a w (ready_none F.ok hs hr) I, fun i hi => ?_⟩
    obtain ⟨o, ho, hl, hr⟩ := ready_at hs hi
    have hn : i < ops.size := (Array.getElem?_eq_some_iff.1 ho).1
    refine draw_step F I ho hl hr fun ι' a' w' I' => ?_
    rw [listed_get (by omega)] at I'
    refine ih _ ι' a' w' (by simp [hs]) ?_ I'
    rw [← listed_get (by omega), cntB_add ops.size hn hl]
    omega

/-- A region that draws its order. -/
theorem Ex_drawn (hm : P.follows .mixedOrders = true) {id : Nat} {base : Nat} {tf : List Value} {Tf : Nat → List Value} {pre : List (Option Blk)} {W : Nat → Bool} {V : Nat → Value} {Hs : Nat → Heap} (hb : base = H.length) (hp : pre.length = cntB (allocAt ops) ops.size)
    (hpf : ∀ b, some b ∈ pre → ∀ v ∈ b.cells, flatV v = true) (h0 : Hs 0 = H ++ pre) (hlen : t.length = tf.length) (hagree : ∀ j, unl ops (fun _ => false) j = false → t[j]? = tf[j]?)
    (F : Facts P B ops base t tf Tf W V Hs) (hq : Q .normal tf (Hs (cntB (heapAt ops) ops.size))) : Ex P B (.region id ops true) t H Q := fun w0 ι w a h1 h2 h3 h4 h5 => by
  refine wp_region_any hm (draw_any F hq ops.size _ ι a _ (by simp) ?_ ?_)
  · have : cntB (fun j => (Array.replicate ops.size false).getD j false) ops.size = 0 := by
      have : ∀ n, cntB (fun j => (Array.replicate ops.size false).getD j false) n = 0 := by
        intro n; induction n with
        | zero => rfl
        | succ n ih => simp only [cntB, ih]; simp [Array.getD_eq_getD_getElem?, Array.getElem?_replicate]; split <;> simp
      exact this _
    omega
  · have hL : (fun j => (Array.replicate ops.size false).getD j false) = fun _ => false := by
      funext j; simp [Array.getD_eq_getD_getElem?, Array.getElem?_replicate]; split <;> simp
    rw [hL]
    have hc0 : cntB (fun i => heapAt ops i && false) ops.size = 0 := by
      have : ∀ n, cntB (fun i => heapAt ops i && false) n = 0 := by
        intro n; induction n with
        | zero => rfl
        | succ n ih => simp only [cntB, Bool.and_false] at ih ⊢; rw [ih]; rfl
      exact this _
    have hrel : HRel w0 ι (H ++ pre) { w with drawn := w.drawn + 1 } := by
      have g := h1.drewW (w.drawn + 1)
      have old : ∀ (j : Nat) (b : Blk) (L : Loc), ι j = some L → (H ++ pre)[j]? = some (some b) → H[j]? = some (some b) := fun j b L hj hb => by
        rw [List.getElem?_append_left (h1.dom j L hj)] at hb; exact hb
      refine ⟨g.below, fun j L hj => by have := h1.dom j L hj; simp; omega, fun j L b hj hb => g.blk j L b hj (old j b L hj hb), fun i j L M b b2 hi hj hne hbi hw hbj => g.sep i j L M b b2 hi hj hne (old i b L hi hbi) hw (old j b2 M hj hbj), ?_, ?_⟩
      · intro j b hb hf v hv
        by_cases hlt : j < H.length
        · rw [List.getElem?_append_left hlt] at hb; exact h1.flat j b hb hf v hv
        · rw [List.getElem?_append_right (by omega)] at hb; exact hpf b (List.mem_of_getElem? hb) v hv
      · intro j b hb
        by_cases hlt : j < H.length
        · rw [List.getElem?_append_left hlt] at hb; exact h1.tot j b hb
        · rw [List.getElem?_append_right (by omega)] at hb; exact .inr (hpf b (List.mem_of_getElem? hb))
    have hocs : OCs B H (H ++ pre) := fun B' hB' ho j b v hj hb hv => by
      rw [List.getElem?_append_left (by omega)] at hb
      exact ho j b v hj hb hv
    refine ⟨fun i o hl => by simp at hl, ⟨by simp [maskT, ← hlen, h2.1], fun j v v' e1 e2 => ?_⟩, h3, ?_, ?_, .refl _ _, ?_, by omega, ?_, ?_⟩
    · rw [mask_get] at e1
      by_cases hu : unl ops (fun _ => false) j = true
      · simp only [hu, if_true] at e1
        cases htf : tf[j]? with
        | none => simp [htf] at e1
        | some u =>
          have hjl : j < t.length := by rw [hlen]; exact (List.getElem?_eq_some_iff.1 htf).1
          simp only [htf, Option.map_some, Option.some.injEq, List.getElem?_eq_getElem hjl, Option.getD_some] at e1
          exact h2.2 j v v' (by rw [List.getElem?_eq_getElem hjl, e1]) e2
      · have hu' : unl ops (fun _ => false) j = false := by simpa using hu
        simp only [hu', Bool.false_eq_true, if_false, Option.map_id'] at e1
        rw [← hagree j hu'] at e1
        exact h2.2 j v v' e1 e2
    · rw [hc0, h0]; exact hrel
    · rw [hc0, h0]; exact hocs B (Nat.le_refl _) h5
    · rw [hc0, h0]; exact hocs
    · rw [hc0, h0, hb]; simp [hp]
    · intro i hi ha _
      cases hq2 : ι (base + cntB (allocAt ops) i) with
      | none => rfl
      | some L => have := h1.dom _ L hq2; omega
end
end Go.Proofs.Ytbmejhabgoimeaa.Eng
set_option linter.unusedVariables false
set_option linter.unusedSimpArgs false
namespace Go.Proofs.Ytbmejhabgoimeaa.Eng
open Go Go.RowKit

section
variable {P : Program} {B : Nat} {t : List Value} {H : Heap} {Q : AQ} {ops : Array Oper} {base : Nat}

/-- The walk through a region in the text's order; what it yields is told in lists. -/
def DX (P : Program) (B : Nat) (ops : Array Oper) (base : Nat) : Nat → List Oper → List Value → Heap → List (Bool × Value) → List Heap → List Value → Heap → Prop
  | _, [], t, H, xs, hs, tf, Hf => xs = [] ∧ hs = [H] ∧ t = tf ∧ H = Hf
  | nal, o :: r, t, H, xs, hs, tf, Hf => ∃ (q : Bool) (v : Value) (xs' : List (Bool × Value)), xs = (q, v) :: xs' ∧ wantedA ops o t = some q ∧ (q = false → v = undef) ∧
    if isHeapO o = true then ∃ (H' : Heap) (hs' : List Heap), hs = H :: hs' ∧ (if q = true then DoesP P B o t H v H' else H' = H) ∧ DX P B ops base nal r (putT t o.dst v) H' xs' hs' tf Hf
    else (q = true → ReadP P B o t H v (base + nal)) ∧ DX P B ops base (nal + if isAllocO o = true then 1 else 0) r (putT t o.dst v) H xs' hs tf Hf
def cl (p : Oper → Bool) : List Oper → Nat → Nat
  | [], _ => 0
  | _ :: _, 0 => 0
  | o :: l, k + 1 => (if p o = true then 1 else 0) + cl p l k
theorem cl_zero (p : Oper → Bool) (l : List Oper) : cl p l 0 = 0 := by cases l <;> rfl
theorem cl_cntB (p : Oper → Bool) (f : Nat → Bool) : ∀ (l : List Oper) (k : Nat), k ≤ l.length → (∀ i o, l[i]? = some o → f i = p o) → cl p l k = cntB f k := by
  have key : ∀ (l : List Oper) (k : Nat) (f : Nat → Bool), k ≤ l.length → (∀ i o, l[i]? = some o → f i = p o) → cl p l k = cntB f k := by
    intro l
    induction l with
    | nil => intro k f hk _; have : k = 0 := by simpa using hk
             subst this; rfl
    | cons o l ih =>
      intro k f hk h
      cases k with
      | zero => rfl
      | succ k =>
        simp only [cl]
        rw [ih k (fun i => f (i + 1)) (by simpa using hk) (fun i o' ho => h (i + 1) o' (by simpa using ho))]
        have h0 := h 0 o rfl
        have sh : ∀ k, cntB f (k + 1) = (if f 0 = true then 1 else 0) + cntB (fun i => f (i + 1)) k := by
          intro k
          induction k with
          | zero => simp [cntB]
          | succ k ih2 => rw [cntB, ih2, cntB]; omega
        rw [sh, h0]
  exact fun l k => key l k f
theorem putT_len (t : List Value) (d : Option Tmp) (v : Value) : (putT t d v).length = t.length := by cases d <;> simp [putT]
theorem putT_ne {t : List Value} {d : Option Tmp} {v : Value} {j : Nat} (h : d ≠ some j) : (putT t d v)[j]? = t[j]? := by
  cases d with
  | none => rfl
  | some i => simp only [putT]; rw [List.getElem?_set, if_neg (fun e => h (by rw [e]))]

theorem DX_at : ∀ (l : List Oper) (nal : Nat) (t : List Value) (H : Heap) (xs : List (Bool × Value)) (hs : List Heap) (tf : List Value) (Hf : Heap), DX P B ops base nal l t H xs hs tf Hf →
    hs[0]? = some H ∧ hs[cl isHeapO l l.length]? = some Hf ∧ t.length = tf.length ∧ (∀ j, (∀ o ∈ l, o.dst ≠ some j) → t[j]? = tf[j]?) ∧
    ∀ (k : Nat) (o : Oper), l[k]? = some o → ∃ (q : Bool) (v : Value) (tk : List Value) (Hk : Heap), xs[k]? = some (q, v) ∧ hs[cl isHeapO l k]? = some Hk ∧ (∀ j, (∀ (k' : Nat) (o' : Oper), k ≤ k' → l[k']? = some o' → o'.dst ≠ some j) → tk[j]? = tf[j]?) ∧ wantedA ops o tk = some q ∧ (q = false → v = undef) ∧
      (isHeapO o = true → ∃ H', hs[cl isHeapO l k + 1]? = some H' ∧ (if q = true then DoesP P B o tk Hk v H' else H' = Hk)) ∧
      (isHeapO o = false → q = true → ReadP P B o tk Hk v (base + (nal + cl isAllocO l k))) ∧
      (∀ d, o.dst = some d → (∀ (k' : Nat) (o' : Oper), k < k' → l[k']? = some o' → o'.dst ≠ some d) → d < tf.length → tf[d]? = some v) ∧
      (∀ j, (∀ (k' : Nat) (o' : Oper), k' < k → l[k']? = some o' → o'.dst ≠ some j) → tk[j]? = t[j]?)
  | [], nal, t, H, xs, hs, tf, Hf, h => by
    obtain ⟨rfl, rfl, rfl, rfl⟩ := h
    exact ⟨rfl, rfl, rfl, fun _ _ => rfl, fun k o h => by simp at h⟩
  | o :: l, nal, t, H, xs, hs, tf, Hf, h => by
    obtain ⟨q, v, xs', rfl, hw, hu, h⟩ := h
    by_cases hh : isHeapO o = true
    · rw [if_pos hh] at h
      obtain ⟨H', hs', rfl, hd, h⟩ := h
      obtain ⟨g1, g2, g3, g4, g5⟩ := DX_at l nal _ H' xs' hs' tf Hf h
      rw [putT_len] at g3
      refine ⟨rfl, ?_, g3, fun j hj => ?_, fun k o' hk => ?_⟩
      · simp only [List.length_cons, cl, hh, if_true]; rw [Nat.add_comm, List.getElem?_cons_succ]; exact g2
      · rw [← g4 j fun o' ho' => hj o' (by simp [ho']), putT_ne (hj o (by simp))]
      · cases k with
        | zero =>
          simp at hk; subst hk
          refine ⟨q, v, t, H, rfl, rfl, fun j hj => ?_, hw, hu, fun _ => ⟨H', by simp [cl]; exact g1, hd⟩, fun hf => by rw [hh] at hf; simp at hf, fun d hd1 hd2 hlt => ?_, ?_⟩
          · rw [← g4 j fun o' ho' => ?_, putT_ne (hj 0 o (Nat.le_refl _) rfl)]
            obtain ⟨m, hm⟩ := List.mem_iff_getElem?.1 ho'
            exact hj (m + 1) o' (by omega) (by simpa using hm)
          · rw [← g4 d fun o' ho' => ?_]
            · rw [hd1]; simp only [putT]; rw [List.getElem?_set]; simp [g3, hlt]
            · obtain ⟨m, hm⟩ := List.mem_iff_getElem?.1 ho'
              exact hd2 (m + 1) o' (by omega) (by simpa using hm)
          · intros; rfl
        | succ k =>
          obtain ⟨q2, v2, tk, Hk, r1, r2, r3, r4, r5, r6, r7, r8, r9⟩ := g5 k o' (by simpa using hk)
          refine ⟨q2, v2, tk, Hk, by simpa using r1, ?_, fun j hj => r3 j fun k' o'' hk' ho'' => hj (k' + 1) o'' (by omega) (by simpa using ho''), r4, r5, fun hf => ?_, fun hf hq => ?_, fun d hd1 hd2 hlt => r8 d hd1 (fun k' o'' hk' ho'' => hd2 (k' + 1) o'' (by omega) (by simpa using ho'')) hlt, fun j hj => by rw [r9 j fun k' o'' hk' ho'' => hj (k' + 1) o'' (by omega) (by simpa using ho''), putT_ne (hj 0 o (by omega) rfl)]⟩
          · simp only [cl, hh, if_true]; rw [Nat.add_comm, List.getElem?_cons_succ]; exact r2
          · obtain ⟨G, s1, s2⟩ := r6 hf
            refine ⟨G, ?_, s2⟩
            simp only [cl, hh, if_true]; rw [show 1 + cl isHeapO l k + 1 = (cl isHeapO l k + 1) + 1 by omega, List.getElem?_cons_succ]; exact s1
          · have ha : isAllocO o = false := by
              unfold isHeapO at hh
              cases hq2 : isAllocO o
              · rfl
              · simp [hq2] at hh
            have := r7 hf hq
            simpa [cl, ha] using this
    · rw [if_neg hh] at h
      obtain ⟨hd, h⟩ := h
      have hh' : isHeapO o = false := by simpa using hh
      obtain ⟨g1, g2, g3, g4, g5⟩ := DX_at l _ _ H xs' hs tf Hf h
      rw [putT_len] at g3
      refine ⟨g1, ?_, g3, fun j hj => ?_, fun k o' hk => ?_⟩
      · simp only [List.length_cons, cl, hh', Bool.false_eq_true, if_false, Nat.zero_add]; exact g2
      · rw [← g4 j fun o' ho' => hj o' (by simp [ho']), putT_ne (hj o (by simp))]
      · cases k with
        | zero =>
          simp at hk; subst hk
          refine ⟨q, v, t, H, rfl, by rw [cl_zero]; exact g1, fun j hj => ?_, hw, hu, fun hf => by rw [hh'] at hf; simp at hf, fun _ hq => by simpa [cl] using hd hq, fun d hd1 hd2 hlt => ?_, ?_⟩
          · rw [← g4 j fun o' ho' => ?_, putT_ne (hj 0 o (Nat.le_refl _) rfl)]
            obtain ⟨m, hm⟩ := List.mem_iff_getElem?.1 ho'
            exact hj (m + 1) o' (by omega) (by simpa using hm)
          · rw [← g4 d fun o' ho' => ?_]
            · rw [hd1]; simp only [putT]; rw [List.getElem?_set]; simp [g3, hlt]
            · obtain ⟨m, hm⟩ := List.mem_iff_getElem?.1 ho'
              exact hd2 (m + 1) o' (by omega) (by simpa using hm)
          · intros; rfl
        | succ k =>
          obtain ⟨q2, v2, tk, Hk, r1, r2, r3, r4, r5, r6, r7, r8, r9⟩ := g5 k o' (by simpa using hk)
          refine ⟨q2, v2, tk, Hk, by simpa using r1, ?_, fun j hj => r3 j fun k' o'' hk' ho'' => hj (k' + 1) o'' (by omega) (by simpa using ho''), r4, r5, fun hf => ?_, fun hf hq => ?_, fun d hd1 hd2 hlt => r8 d hd1 (fun k' o'' hk' ho'' => hd2 (k' + 1) o'' (by omega) (by simpa using ho'')) hlt, fun j hj => by rw [r9 j fun k' o'' hk' ho'' => hj (k' + 1) o'' (by omega) (by simpa using ho''), putT_ne (hj 0 o (by omega) rfl)]⟩
          · simp only [cl, hh', Bool.false_eq_true, if_false, Nat.zero_add]; exact r2
          · obtain ⟨G, s1, s2⟩ := r6 hf
            refine ⟨G, ?_, s2⟩
            simp only [cl, hh', Bool.false_eq_true, if_false, Nat.zero_add]; exact s1
          · have := r7 hf hq
            simp only [cl]
            rw [← Nat.add_assoc nal]; exact this

def rcOk (ops : Array Oper) (rl : List (Nat × Nat)) : Bool := (List.range ops.size).all fun i => match ops[i]? with
  | some o => isHeapO o || isPure o || (List.range (cntB (heapAt ops) ops.size + 1)).all fun k => !mayAt ops i k || k == cntB (heapAt ops) i || (rl.contains (i, k) && (List.range ops.size).all fun j => match ops[j]? with
    | some oj => decide (j < i) || (match oj.dst with | some d => !(o.looksAt ops).contains d | none => true)
    | none => true)
  | none => true
/-- What has to be read again. -/
def RC (P : Program) (B : Nat) (ops : Array Oper) (base : Nat) (xs : List (Bool × Value)) (hs : List Heap) (tf : List Value) : List (Nat × Nat) → Prop
  | [] => True
  | (i, k) :: r => (∃ (o : Oper) (q : Bool) (v : Value) (Hk : Heap), ops[i]? = some o ∧ xs[i]? = some (q, v) ∧ hs[k]? = some Hk ∧ (q = true → ReadP P B o tf Hk v (base + cl isAllocO ops.toList i))) ∧ RC P B ops base xs hs tf r
theorem RC_at {xs : List (Bool × Value)} {hs : List Heap} {tf : List Value} : ∀ {rl : List (Nat × Nat)} {i k : Nat}, RC P B ops base xs hs tf rl → (i, k) ∈ rl → ∃ (o : Oper) (q : Bool) (v : Value) (Hk : Heap), ops[i]? = some o ∧ xs[i]? = some (q, v) ∧ hs[k]? = some Hk ∧ (q = true → ReadP P B o tf Hk v (base + cl isAllocO ops.toList i))
  | [], _, _, _, h => by simp at h
  | (i', k') :: r, i, k, h, hm => by
    rcases List.mem_cons.1 hm with e | hm
    · obtain ⟨rfl, rfl⟩ := Prod.mk.inj e; exact h.1
    · exact RC_at h.2 hm
theorem ReadP.congr {o : Oper} {t t' : List Value} {v : Value} {id : Nat} (h : ∀ x ∈ o.op.operands, ev t' x = ev t x) (hr : ReadP P B o t H v id) : ReadP P B o t' H v id := by
  unfold ReadP at hr ⊢
  split at hr
  · exact hr
  · rw [opA_congr h]; exact hr

/-- A region that draws its order, walked through in the text's order. -/
theorem Ex_dr (hm : P.follows .mixedOrders = true) {id : Nat} {pre : List (Option Blk)} {xs : List (Bool × Value)} {hs : List Heap} {tf : List Value} {H1 Hf : Heap} (rl : List (Nat × Nat)) (hok : drawOk ops = true) (hrl : rcOk ops rl = true)
    (hp : pre.length = cl isAllocO ops.toList ops.toList.length) (hpf : pre.all (fun b => match b with | some b => b.cells.all flatV | none => true) = true) (hH : H ++ pre = H1)
    (hw : DX P B ops H.length 0 ops.toList t H1 xs hs tf Hf) (hrc : RC P B ops H.length xs hs tf rl) (k : Q .normal tf Hf) : Ex P B (.region id ops true) t H Q := by
  subst hH
  obtain ⟨g1, g2, g3, g4, g5⟩ := DX_at _ _ _ _ _ _ _ _ hw
  have cH : ∀ i, i ≤ ops.size → cl isHeapO ops.toList i = cntB (heapAt ops) i := fun i hi => cl_cntB isHeapO (heapAt ops) ops.toList i (by simpa using hi) fun j o hj => by
    rw [Array.getElem?_toList] at hj; simp [heapAt, hj]
  have cA : ∀ i, i ≤ ops.size → cl isAllocO ops.toList i = cntB (allocAt ops) i := fun i hi => cl_cntB isAllocO (allocAt ops) ops.toList i (by simpa using hi) fun j o hj => by
    rw [Array.getElem?_toList] at hj; simp [allocAt, hj]
  have hsz : ops.toList.length = ops.size := by simp
  rw [hsz, cH _ (Nat.le_refl _)] at g2
  rw [hsz, cA _ (Nat.le_refl _)] at hp
  let W : Nat → Bool := fun i => ((xs[i]?).getD (false, undef)).1
  let V : Nat → Value := fun i => ((xs[i]?).getD (false, undef)).2
  let Hs : Nat → Heap := fun k => (hs[k]?).getD []
  have at' : ∀ (i : Nat), ∃ tk : List Value, ∀ (o : Oper), ops[i]? = some o → ∃ (Hk : Heap), hs[cntB (heapAt ops) i]? = some Hk ∧ xs[i]? = some (W i, V i) ∧ wantedA ops o tk = some (W i) ∧ (W i = false → V i = undef) ∧
      (isHeapO o = true → ∃ H', hs[cntB (heapAt ops) i + 1]? = some H' ∧ (if W i = true then DoesP P B o tk Hk (V i) H' else H' = Hk)) ∧
      (isHeapO o = false → W i = true → ReadP P B o tk Hk (V i) (H.length + cntB (allocAt ops) i)) ∧ (∀ d v, o.dst = some d → tf[d]? = some v → v = V i) ∧
      (∀ j, (∀ (k' : Nat) (o' : Oper), i ≤ k' → ops[k']? = some o' → o'.dst ≠ some j) → tk[j]? = tf[j]?) ∧
      (∀ j, (∀ (k' : Nat) (o' : Oper), k' < i → ops[k']? = some o' → o'.dst ≠ some j) → tk[j]? = t[j]?) := by
    intro i
    cases ho0 : ops[i]? with
    | none => exact ⟨[], fun o ho => by simp at ho⟩
    | some o0 =>
    have hn : i < ops.size := (Array.getElem?_eq_some_iff.1 ho0).1
    obtain ⟨q, v, tk, Hk, r1, r2, r3, r4, r5, r6, r7, r8, r9⟩ := g5 i o0 (by rw [Array.getElem?_toList]; exact ho0)
    refine ⟨tk, fun o ho => ?_⟩
    obtain rfl := Option.some.inj ho
    have hW : W i = q := by simp [W, r1]
    have hV : V i = v := by simp [V, r1]
    rw [cH i (by omega)] at r2 r6
    rw [cA i (by omega), Nat.zero_add] at r7
    refine ⟨Hk, r2, by rw [hW, hV]; exact r1, by rw [hW]; exact r4, by rw [hW, hV]; exact r5, by rw [hW, hV]; exact r6, by rw [hW, hV]; exact r7, fun d u hd hu => ?_, fun j hj => r3 j fun k' o' hk' ho' => hj k' o' hk' (by rw [← Array.getElem?_toList]; exact ho'), fun j hj => r9 j fun k' o' hk' ho' => hj k' o' hk' (by rw [← Array.getElem?_toList]; exact ho')⟩
    have hlt : d < tf.length := (List.getElem?_eq_some_iff.1 hu).1
    have := r8 d hd (fun k' o' hk' ho' hd' => by
      rw [Array.getElem?_toList] at ho'
      have hp := (drawOk_at hok ho0).2 k' o' ho'
      simp only [pairOk, hd', Bool.and_eq_true, Bool.or_eq_true, beq_iff_eq, bne_iff_ne] at hp
      rcases hp.1.2 with e | e
      · omega
      · exact e hd) hlt
    rw [hV]; rw [this] at hu; exact (Option.some.inj hu).symm
  obtain ⟨Tf, at'⟩ := Classical.axiomOfChoice at'
  have F : Facts P B ops H.length t tf Tf W V Hs := by
    refine ⟨hok, fun i o ho => ?_, fun i o ho hq => ?_, fun i o ho hh => ?_, fun i o k ho hh hq hk hkm => ?_, fun i o x ho hx hj => ?_, fun i o x ho hx hj => ?_, g3, fun i o d v ho hd hv => ?_⟩
    · obtain ⟨Hk, _, _, r, _⟩ := at' i o ho; exact r
    · obtain ⟨Hk, _, _, _, r, _⟩ := at' i o ho; exact r hq
    · obtain ⟨Hk, r1, _, _, _, r6, _⟩ := at' i o ho
      obtain ⟨H', s1, s2⟩ := r6 hh
      have e1 : Hs (cntB (heapAt ops) i) = Hk := by simp [Hs, r1]
      have e2 : Hs (cntB (heapAt ops) i + 1) = H' := by simp [Hs, s1]
      rw [e1, e2]
      exact s2
    · obtain ⟨Hk, r1, r2, _, _, _, hr, _, hE, _⟩ := at' i o ho
      have hn : i < ops.size := (Array.getElem?_eq_some_iff.1 ho).1
      have hr := hr hh hq
      have e1 : Hs (cntB (heapAt ops) i) = Hk := by simp [Hs, r1]
      by_cases hpu : isPure o = true
      · unfold ReadP at hr ⊢
        split
        · rename_i e he; simp [isPure, he] at hpu
        · rename_i hne
          split at hr
          · rename_i e he; exact absurd he (hne e)
          · exact (opA_pure hpu hr).2 _
      · by_cases hkp : k = cntB (heapAt ops) i
        · subst hkp; rw [e1]; exact hr
        · have hall := List.all_eq_true.1 hrl i (by simpa using hn)
          rw [ho] at hall
          have hpu' : isPure o = false := by simpa using hpu
          simp only [hh, hpu', Bool.false_or] at hall
          have := List.all_eq_true.1 hall k (by simp; omega)
          have hkp' : (k == cntB (heapAt ops) i) = false := by simpa using hkp
          simp only [hk, hkp', Bool.not_true, Bool.false_or, Bool.and_eq_true] at this
          obtain ⟨hin, hlate⟩ := this
          obtain ⟨o2, q2, v2, Hk2, s1, s2, s3, s4⟩ := RC_at hrc (by simpa using hin)
          rw [ho] at s1; obtain rfl := Option.some.inj s1
          rw [r2] at s2
          obtain ⟨e3, e4⟩ := Prod.mk.inj (Option.some.inj s2)
          have e5 : Hs k = Hk2 := by simp [Hs, s3]
          rw [e5, e4, ← cA i (by omega)]
          refine (s4 (by rw [← e3]; exact hq)).congr fun x hx => ?_
          cases x with
          | tmp y =>
            simp only [ev]
            refine hE y fun k' o' hk' ho' hd => ?_
            have hk'n : k' < ops.size := (Array.getElem?_eq_some_iff.1 ho').1
            have h9 := List.all_eq_true.1 hlate k' (by simpa using hk'n)
            rw [ho'] at h9
            simp only [hd, Bool.or_eq_true, decide_eq_true_eq, Bool.not_eq_true'] at h9
            rcases h9 with h9 | h9
            · omega
            · have : (o.looksAt ops).contains y = true := by
                simp only [List.contains_iff_mem]
                unfold Oper.looksAt
                exact List.mem_append_left _ (List.mem_filterMap.2 ⟨.tmp y, by simpa using hx, rfl⟩)
              rw [h9] at this; simp at this
          | _ => rfl
    · obtain ⟨Hk, _, _, _, _, _, _, _, _, hL⟩ := at' i o ho
      obtain ⟨j, oj, hj1, hj2, hj3⟩ := hj
      refine hL x fun k' o' hk' ho' hd => ?_
      have hp := (drawOk_at hok hj1).2 k' o' ho'
      simp only [pairOk, hd, Bool.and_eq_true, Bool.or_eq_true, beq_iff_eq, bne_iff_ne] at hp
      rcases hp.1.2 with e | e
      · omega
      · exact e hj2
    · obtain ⟨Hk, _, _, _, _, _, _, _, hE, _⟩ := at' i o ho
      exact hE x fun k' o' hk' ho' hd => hj ⟨k', o', ho', hd, hk'⟩
    · obtain ⟨Hk, _, _, _, _, _, _, r, _⟩ := at' i o ho; exact r d v hd hv
  refine Ex_drawn hm (base := H.length) (pre := pre) rfl hp (fun b hb v hv => ?_) (by simp [Hs, g1]) g3 (fun j hj => g4 j fun o ho hd => ?_) F ?_
  · have := List.all_eq_true.1 hpf (some b) hb
    exact List.all_eq_true.1 this v hv
  · obtain ⟨i, hi⟩ := List.mem_iff_getElem?.1 ho
    have : unl ops (fun _ => false) j = true := unl_iff.2 ⟨i, o, by rw [← Array.getElem?_toList]; exact hi, rfl, hd⟩
    rw [hj] at this; simp at this
  · have : Hs (cntB (heapAt ops) ops.size) = Hf := by simp [Hs, g2]
    rw [this]; exact k
end
end Go.Proofs.Ytbmejhabgoimeaa.Eng
