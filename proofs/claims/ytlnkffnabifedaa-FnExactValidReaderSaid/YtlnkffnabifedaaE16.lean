/- A text of this claim: E16. -/
import Derived.Test.YtlnkffnabifedaaE15
set_option linter.unusedVariables false
set_option linter.unusedSimpArgs false
namespace Go.Proofs.Ytlnkffnabifedaa.Eng
open Go Go.RowKit

class TyIs (P : Program) (t : Nat) (d : outParam TyD) : Prop where
  eq : tyOf P t = some d

section
variable {P : Program} {B : Nat} {t : List Value} {H H0 : Heap} {bs bs' : List (Option Blk)} {Q : AQ} {o0 : Oper}

theorem getB_N {n : Nat} {b : Blk} (hB : H0.length = B) (h : getB bs n = some b) : getB (H0 ++ bs) (B + n) = some b := by
  subst hB; rw [getB_new]; exact h
theorem getB_S {i : Nat} {b b' : Blk} (h : getB H0 i = some b) : getB (H0.set i (some b')) i = some b' := by
  have := getB_lt h
  rw [getB_eq]; simp [this]
theorem getB_S' {i j : Nat} {x : Option Blk} {b : Blk} (hne : i ≠ j) (h : getB H0 j = some b) : getB (H0.set i x) j = some b := by
  rw [getB_eq] at h ⊢; rw [List.getElem?_set, if_neg hne]; exact h

theorem oa_alloc {e : TypeId} {d : TyD} {n : Nat} (ho : o0.op = .alloc e) (hB : H0.length = B) (hT : tyOf P e = some d) (hb : bs ++ [some ⟨d.zero, 0, true, d.fl⟩] = bs') (hn : bs.length = n) :
    opA (tyOf P) (eqOf P) B t (H0 ++ bs) o0 = some (.pointer (some ⟨B + n, 0, none⟩), H0 ++ bs') := by
  obtain ⟨D, op0, ty0, ps, af, g⟩ := o0; dsimp only at ho; subst ho
  subst hB; subst hb; subst hn
  simp [opA, hT, newA]
theorem oa_box {e : TypeId} {x : Operand} {v : Value} {cs : List Value} {fl : Bool} {d : TyD} {n : Nat} (ho : o0.op = .box e x) (hB : H0.length = B) (hT : tyOf P e = some d) (hx : evL t x = some v) (hc : cellsL v = cs) (hf : (d.fl && cs.all flatV) = fl) (hb : bs ++ [some ⟨cs, 0, true, fl⟩] = bs') (hn : bs.length = n) :
    opA (tyOf P) (eqOf P) B t (H0 ++ bs) o0 = some (.pointer (some ⟨B + n, 0, none⟩), H0 ++ bs') := by
  obtain ⟨D, op0, ty0, ps, af, g⟩ := o0; dsimp only at ho; subst ho
  subst hB; subst hc; subst hf; subst hb; subst hn
  simp [opA, hT, newA, hx]
theorem oa_load {ty : TypeId} {x : Operand} {id o : Nat} {d : TyD} {b : Blk} {v : Value} (ho : o0.op = .load ty x) (hx : evL t x = some (.pointer (some ⟨id, o, none⟩))) (hT : tyOf P ty = some d) (ha : aggD d.und = false) (hb : getB H id = some b) (hv : b.cells[o]? = some v) :
    opA (tyOf P) (eqOf P) B t H o0 = some (v, H) := by
  obtain ⟨D, op0, ty0, ps, af, g⟩ := o0; dsimp only at ho; subst ho
  have hl : o + 1 ≤ b.cells.length := (List.getElem?_eq_some_iff.1 hv).1
  have : ((b.cells.drop o).take 1)[0]? = some v := by rw [List.getElem?_take, if_pos (by omega), List.getElem?_drop]; simpa using hv
  simp [opA, hx, loadVarA, hT, ha, loadA, hb, hl]
  simpa using this
theorem oa_loadA {ty : TypeId} {x : Operand} {id o : Nat} {d : TyD} {b : Blk} {vs : List Value} (ho : o0.op = .load ty x) (hx : evL t x = some (.pointer (some ⟨id, o, none⟩))) (hT : tyOf P ty = some d) (ha : aggD d.und = true) (hb : getB H id = some b) (hl : o + d.size ≤ b.cells.length) (hv : (b.cells.drop o).take d.size = vs) :
    opA (tyOf P) (eqOf P) B t H o0 = some (.agg ⟨vs⟩, H) := by
  obtain ⟨D, op0, ty0, ps, af, g⟩ := o0; dsimp only at ho; subst ho
  subst hv
  simp [opA, hx, loadVarA, hT, ha, loadA, hb, hl]
theorem oa_storeG {ty : TypeId} {x y : Operand} {id o : Nat} {d : TyD} {b : Blk} {u : Value} {cs cs' : List Value} (ho : o0.op = .store ty x y) (hx : evL t x = some (.pointer (some ⟨id, o, none⟩))) (hy : evL t y = some u) (hT : tyOf P ty = some d) (hc : cellsL u = cs) (hsz : cs.length = d.size)
    (hb : getB H id = some b) (hw : b.wr = true) (hl : o + cs.length ≤ b.cells.length) (h1 : cs.all (·.oneCell') = true) (hf : (b.fl = true ∨ id < B) → cs.all flatV = true) (hcs : splice b.cells o cs = cs') :
    opA (tyOf P) (eqOf P) B t H o0 = some (undef, H.set id (some ⟨cs', b.sz, true, b.fl⟩)) := by
  obtain ⟨D, op0, ty0, ps, af, g⟩ := o0; dsimp only at ho; subst ho
  subst hc; subst hcs
  have : storeA B H id o (cellsL u) = some (H.set id (some ⟨splice b.cells o (cellsL u), b.sz, true, b.fl⟩)) := by
    unfold storeA
    simp only [hb]
    rw [if_pos ⟨hw, hl, h1, hf⟩]
    rw [← hw]
  simp [opA, hx, hy, storeVarA, hT, hsz, this]
theorem oa_store {ty : TypeId} {x y : Operand} {n o : Nat} {d : TyD} {b : Blk} {u : Value} {cs cs' : List Value} (ho : o0.op = .store ty x y) (hB : H0.length = B) (hx : evL t x = some (.pointer (some ⟨B + n, o, none⟩))) (hy : evL t y = some u) (hT : tyOf P ty = some d) (hc : cellsL u = cs) (hsz : cs.length = d.size)
    (hb : getB bs n = some b) (hw : b.wr = true) (hl : o + cs.length ≤ b.cells.length) (h1 : cs.all (·.oneCell') = true) (hf : b.fl = true → cs.all flatV = true) (hcs : splice b.cells o cs = cs') (hbs : bs.set n (some ⟨cs', b.sz, true, b.fl⟩) = bs') :
    opA (tyOf P) (eqOf P) B t (H0 ++ bs) o0 = some (undef, H0 ++ bs') := by
  rw [oa_storeG ho hx hy hT hc hsz (getB_N hB hb) hw hl h1 (fun q => q.elim hf (fun q => by omega)) hcs]
  subst hB; subst hbs
  rw [set_new]
theorem oa_storeO {ty : TypeId} {x y : Operand} {id o : Nat} {d : TyD} {b : Blk} {u : Value} {cs cs' : List Value} (ho : o0.op = .store ty x y) (hx : evL t x = some (.pointer (some ⟨id, o, none⟩))) (hy : evL t y = some u) (hT : tyOf P ty = some d) (hc : cellsL u = cs) (hsz : cs.length = d.size)
    (hb : getB H0 id = some b) (hw : b.wr = true) (hl : o + cs.length ≤ b.cells.length) (h1 : cs.all (·.oneCell') = true) (hf : cs.all flatV = true) (hcs : splice b.cells o cs = cs') :
    opA (tyOf P) (eqOf P) B t (H0 ++ bs) o0 = some (undef, H0.set id (some ⟨cs', b.sz, true, b.fl⟩) ++ bs) := by
  rw [oa_storeG ho hx hy hT hc hsz (getB_old hb) hw hl h1 (fun _ => hf) hcs, List.set_append_left _ _ (getB_lt hb)]
theorem oa_fieldAddr {ty : TypeId} {x : Operand} {f id o o' : Nat} {d df : TyD} {fs : Array Field} {fd : Field} (ho : o0.op = .fieldAddr ty x f) (hx : evL t x = some (.pointer (some ⟨id, o, none⟩))) (hT : tyOf P ty = some d) (hu : d.und = .struct fs) (hf : fs.toList[f]? = some fd) (hT2 : tyOf P fd.type = some df) (hne : df.size ≠ 0) (ho : o + fd.offset = o') :
    opA (tyOf P) (eqOf P) B t H o0 = some (.pointer (some ⟨id, o', none⟩), H) := by
  obtain ⟨D, op0, ty0, ps, af, g⟩ := o0; dsimp only at ho; subst ho
  subst ho
  rw [Array.getElem?_toList] at hf
  simp [opA, hx, fieldAtA, hT, hu, hf, hT2, hne]
theorem oa_indexAddrS {ty e : TypeId} {x y : Operand} {id o n c o' : Nat} {k : IntKind} {i : Int} {d de : TyD} (ho : o0.op = .indexAddr ty x y) (hx : evL t x = some (.slice (some ⟨id, o, none⟩) n c)) (hy : evL t y = some (.int k i)) (hT : tyOf P ty = some d) (hu : d.und = .slice e) (hT2 : tyOf P e = some de) (hi : 0 ≤ i ∧ i < (n : Int)) (ho : o + i.toNat * de.size = o') :
    opA (tyOf P) (eqOf P) B t H o0 = some (.pointer (some ⟨id, o', none⟩), H) := by
  obtain ⟨D, op0, ty0, ps, af, g⟩ := o0; dsimp only at ho; subst ho
  subst ho
  simp [opA, hx, hy, indexAtA, hT, hu, hT2, hi]
theorem oa_indexAddrA {ty e : TypeId} {x y : Operand} {id o n o' : Nat} {k : IntKind} {i : Int} {d de : TyD} (ho : o0.op = .indexAddr ty x y) (hx : evL t x = some (.pointer (some ⟨id, o, none⟩))) (hy : evL t y = some (.int k i)) (hT : tyOf P ty = some d) (hu : d.und = .array n e) (hT2 : tyOf P e = some de) (hi : 0 ≤ i ∧ i < (n : Int)) (ho : o + i.toNat * de.size = o') :
    opA (tyOf P) (eqOf P) B t H o0 = some (.pointer (some ⟨id, o', none⟩), H) := by
  obtain ⟨D, op0, ty0, ps, af, g⟩ := o0; dsimp only at ho; subst ho
  subst ho
  simp [opA, hx, hy, indexAtA, hT, hu, hT2, hi]
theorem oa_indexStr {ty : TypeId} {x y : Operand} {k : IntKind} {i : Int} {d : TyD} {s : ByteArray} {c : UInt8} (ho : o0.op = .index ty x y) (hx : evL t x = some (.string s)) (hy : evL t y = some (.int k i)) (hT : tyOf P ty = some d) (hu : d.und = .string) (h0 : 0 ≤ i) (hi : s.data.toList[i.toNat]? = some c) :
    opA (tyOf P) (eqOf P) B t H o0 = some (.int .u8 (c.toNat : Int), H) := by
  obtain ⟨D, op0, ty0, ps, af, g⟩ := o0; dsimp only at ho; subst ho
  simp [opA, hx, hy, indexA, hT, hu, h0]
  exact ⟨c, by simpa using hi, rfl⟩
theorem oa_convInt {s d : TypeId} {x : Operand} {k k' : IntKind} {n : Int} {ds dd : TyD} (ho : o0.op = .convert s d x) (hx : evL t x = some (.int k n)) (hT : tyOf P s = some ds) (hT2 : tyOf P d = some dd) (hu : dd.und = .int k') :
    opA (tyOf P) (eqOf P) B t H o0 = some (.int k' (k'.wrap n), H) := by
  obtain ⟨D, op0, ty0, ps, af, g⟩ := o0; dsimp only at ho; subst ho
  simp [opA, hx, convA, hT, hT2, hu]
theorem oa_lenS {ty : TypeId} {x : Operand} {tys : Array TypeId} {a : Option Addr} {n c : Nat} {d : TyD} {e : TypeId} (ho : o0.op = .call ⟨.builtin .len, #[x], tys⟩) (hty : tys.toList = [ty]) (hx : evL t x = some (.slice a n c)) (hT : tyOf P ty = some d) (hu : d.und = .slice e) :
    opA (tyOf P) (eqOf P) B t H o0 = some (.int .i64 n, H) := by
  obtain ⟨D, op0, ty0, ps, af, g⟩ := o0; dsimp only at ho; subst ho
  simp [opA, evAllL, hx, builtinA, hty, lenA, hT, hu]
theorem oa_lenStr {ty : TypeId} {x : Operand} {tys : Array TypeId} {s : ByteArray} {d : TyD} (ho : o0.op = .call ⟨.builtin .len, #[x], tys⟩) (hty : tys.toList = [ty]) (hx : evL t x = some (.string s)) (hT : tyOf P ty = some d) (hu : d.und = .string) :
    opA (tyOf P) (eqOf P) B t H o0 = some (.int .i64 s.size, H) := by
  obtain ⟨D, op0, ty0, ps, af, g⟩ := o0; dsimp only at ho; subst ho
  simp [opA, evAllL, hx, builtinA, hty, lenA, hT, hu]
theorem oa_build {ty : TypeId} {parts : Array (Nat × Operand)} {l : List (Nat × Value)} {fs : Array Field} {pl : List (Nat × Nat)} {d : TyD} {cs : List Value} (ho : o0.op = .build ty parts) (hp : evParts t parts.toList = some l) (hT : tyOf P ty = some d) (hu : d.und = .struct fs) (ho : offsL (tyOf P) fs.toList = some pl) (hf : fillL (fun i => pl[i]?) d.zero l = some cs) :
    opA (tyOf P) (eqOf P) B t H o0 = some (.agg ⟨cs⟩, H) := by
  obtain ⟨D, op0, ty0, ps, af, g⟩ := o0; dsimp only at ho; subst ho
  simp [opA, hp, buildA, hT, hu, ho, hf]
theorem oa_field {ty : TypeId} {x : Operand} {f : Nat} {d df : TyD} {fs : Array Field} {fd : Field} {cs : Array Value} {v : Value} (ho : o0.op = .field ty x f) (hx : evL t x = some (.agg cs)) (hT : tyOf P ty = some d) (hu : d.und = .struct fs) (hf : fs.toList[f]? = some fd) (hT2 : tyOf P fd.type = some df) (ha : aggD df.und = false) (hv : cs.toList[fd.offset]? = some v) :
    opA (tyOf P) (eqOf P) B t H o0 = some (v, H) := by
  obtain ⟨D, op0, ty0, ps, af, g⟩ := o0; dsimp only at ho; subst ho
  rw [Array.getElem?_toList] at hf
  simp only [opA, hx, fieldA, hT, hu, hf, partL, hT2, ha]
  simp [hv]

/-- A function whose frame makes variables. -/
theorem fun_h {f : FuncId} {fn : Func} {c : Code} {args t0 : List Value} {rs : List ResultVar} {R : Value → Heap → Prop} (n : Nat) (hf : P.funcs[f]? = some fn) (hb : fn.body = some c) (hn : (fn.name == "runtime.NumGoroutine") = false) (hm : fn.ntmps = n) (hr : fn.results.toList = rs)
    (ht : args ++ List.replicate (n - args.length) undef = t0) (h : ∀ B, H.length = B → Ex P B c t0 (H ++ []) (fun e t' H' => (e = .normal ∨ e = .ret) ∧ ∃ vs, resA (tyOf P) t' H' rs = some vs ∧ RetX B (packR vs) H' R)) : Runs P f args H R :=
  fun_at n hf hb hn hm hr ht (by have := h H.length rfl; rwa [List.append_nil] at this)
theorem ret_h {e : Exit} {t' : List Value} {rs : List ResultVar} {R : Value → Heap → Prop} {vs : List Value} {v : Value} (hB : H0.length = B) (he : e = .normal ∨ e = .ret) (hv : resA (tyOf P) t' (H0 ++ bs) rs = some vs) (hp : packR vs = v) (hl : Lt B v) (h : R v H0) :
    (e = .normal ∨ e = .ret) ∧ ∃ vs, resA (tyOf P) t' (H0 ++ bs) rs = some vs ∧ RetX B (packR vs) (H0 ++ bs) R := by
  subst hB; subst hp; exact ⟨he, vs, hv, .drop h hl⟩
theorem Lt.aggF {vs : List Value} (h : vs.all flatV = true) : Lt B (.agg ⟨vs⟩) := Lt.agg fun v hv => .flat (List.all_eq_true.1 h v hv)
theorem Lt.tupleF {vs : List Value} (h : vs.all flatV = true) : Lt B (.tuple ⟨vs⟩) := Lt.tuple fun v hv => .flat (List.all_eq_true.1 h v hv)
theorem wrap64_id {n : Int} (h : -9223372036854775808 ≤ n ∧ n < 9223372036854775808) : IntKind.i64.wrap n = n := by
  simp [IntKind.wrap, IntKind.signed, IntKind.bits]
  omega
end
end Go.Proofs.Ytlnkffnabifedaa.Eng
