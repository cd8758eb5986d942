/- A text of this claim: E22. -/
import Derived.Test.YtlnkffnabifedaaE21
set_option linter.unusedVariables false
set_option linter.unusedSimpArgs false
namespace Go.Proofs.Ytlnkffnabifedaa.Eng
open Go Go.RowKit

section
variable {P : Program} {B : Nat} {t t' : List Value} {H H' Hf : Heap} {Q : AQ} {ops : Array Oper} {base nal : Nat} {o0 : Oper} {r : List Oper} {xs : List (Bool × Value)} {hs : List Heap} {tf : List Value} {v : Value}

/-- The same, with what comes after. -/
def DC (P : Program) (B : Nat) (ops : Array Oper) (base nal : Nat) (l : List Oper) (t : List Value) (H : Heap) (K : List (Bool × Value) → List Heap → List Value → Heap → Prop) : Prop :=
  ∃ xs hs tf Hf, DX P B ops base nal l t H xs hs tf Hf ∧ K xs hs tf Hf
variable {K : List (Bool × Value) → List Heap → List Value → Heap → Prop}
theorem dx_nil : DX P B ops base nal [] t H [] [H] t H := ⟨rfl, rfl, rfl, rfl⟩
theorem dx_heap (hw : wantedA ops o0 t = some true) (hh : isHeapO o0 = true) (hd : DoesP P B o0 t H v H') (ht : putT t o0.dst v = t') (k : DX P B ops base nal r t' H' xs hs tf Hf) : DX P B ops base nal (o0 :: r) t H ((true, v) :: xs) (H :: hs) tf Hf := by
  subst ht
  exact ⟨true, v, xs, rfl, hw, fun h => by simp at h, by rw [if_pos hh]; exact ⟨H', hs, rfl, by simpa using hd, k⟩⟩
theorem dx_read (hw : wantedA ops o0 t = some true) (hh : isHeapO o0 = false) (ha : isAllocO o0 = false) (hd : opA (tyOf P) (eqOf P) B t H o0 = some (v, H)) (ht : putT t o0.dst v = t') (k : DX P B ops base nal r t' H xs hs tf Hf) : DX P B ops base nal (o0 :: r) t H ((true, v) :: xs) hs tf Hf := by
  subst ht
  refine ⟨true, v, xs, rfl, hw, fun h => by simp at h, ?_⟩
  rw [if_neg (by simp [hh])]
  refine ⟨fun _ => ?_, by simpa [ha] using k⟩
  unfold ReadP
  split
  · rename_i e he; simp [isAllocO, he] at ha
  · exact hd
theorem dx_alloc {e : TypeId} {d : TyD} {id : Nat} (hw : wantedA ops o0 t = some true) (ho : o0.op = .alloc e) (hT : tyOf P e = some d) (hid : base + nal = id) (hb : getB H id = some ⟨d.zero, 0, true, d.fl⟩) (ht : putT t o0.dst (.pointer (some ⟨id, 0, none⟩)) = t') (k : DX P B ops base (nal + 1) r t' H xs hs tf Hf) :
    DX P B ops base nal (o0 :: r) t H ((true, .pointer (some ⟨id, 0, none⟩)) :: xs) hs tf Hf := by
  subst ht; subst hid
  have ha : isAllocO o0 = true := by simp [isAllocO, ho]
  refine ⟨true, _, xs, rfl, hw, fun h => by simp at h, ?_⟩
  rw [if_neg (by simp [isHeapO, ha])]
  refine ⟨fun _ => ?_, by simpa [ha] using k⟩
  unfold ReadP
  rw [ho]
  exact ⟨d, hT, rfl, hb⟩
theorem dx_skip (hw : wantedA ops o0 t = some false) (hh : isHeapO o0 = false) (ha : isAllocO o0 = false) (ht : putT t o0.dst undef = t') (k : DX P B ops base nal r t' H xs hs tf Hf) : DX P B ops base nal (o0 :: r) t H ((false, undef) :: xs) hs tf Hf := by
  subst ht
  refine ⟨false, undef, xs, rfl, hw, fun _ => rfl, ?_⟩
  rw [if_neg (by simp [hh])]
  exact ⟨fun h => by simp at h, by simpa [ha] using k⟩
theorem dx_skipH (hw : wantedA ops o0 t = some false) (hh : isHeapO o0 = true) (ht : putT t o0.dst undef = t') (k : DX P B ops base nal r t' H xs hs tf Hf) : DX P B ops base nal (o0 :: r) t H ((false, undef) :: xs) (H :: hs) tf Hf := by
  subst ht
  refine ⟨false, undef, xs, rfl, hw, fun _ => rfl, ?_⟩
  rw [if_pos hh]
  exact ⟨H, hs, rfl, by simp, k⟩
theorem dc_nil (h : K [] [H] t H) : DC P B ops base nal [] t H K := ⟨[], [H], t, H, dx_nil, h⟩
theorem dc_heap (hw : wantedA ops o0 t = some true) (hh : isHeapO o0 = true) (hd : DoesP P B o0 t H v H') (ht : putT t o0.dst v = t') (k : DC P B ops base nal r t' H' fun xs hs tf Hf => K ((true, v) :: xs) (H :: hs) tf Hf) : DC P B ops base nal (o0 :: r) t H K := by
  obtain ⟨xs, hs, tf, Hf, h1, h2⟩ := k; exact ⟨_, _, tf, Hf, dx_heap hw hh hd ht h1, h2⟩
theorem dc_read (hw : wantedA ops o0 t = some true) (hh : isHeapO o0 = false) (ha : isAllocO o0 = false) (hd : opA (tyOf P) (eqOf P) B t H o0 = some (v, H)) (ht : putT t o0.dst v = t') (k : DC P B ops base nal r t' H fun xs hs tf Hf => K ((true, v) :: xs) hs tf Hf) : DC P B ops base nal (o0 :: r) t H K := by
  obtain ⟨xs, hs, tf, Hf, h1, h2⟩ := k; exact ⟨_, _, tf, Hf, dx_read hw hh ha hd ht h1, h2⟩
theorem dc_alloc {e : TypeId} {d : TyD} {id : Nat} (hw : wantedA ops o0 t = some true) (ho : o0.op = .alloc e) (hT : tyOf P e = some d) (hid : base + nal = id) (hb : getB H id = some ⟨d.zero, 0, true, d.fl⟩) (ht : putT t o0.dst (.pointer (some ⟨id, 0, none⟩)) = t') (k : DC P B ops base (nal + 1) r t' H fun xs hs tf Hf => K ((true, .pointer (some ⟨id, 0, none⟩)) :: xs) hs tf Hf) :
    DC P B ops base nal (o0 :: r) t H K := by
  obtain ⟨xs, hs, tf, Hf, h1, h2⟩ := k; exact ⟨_, _, tf, Hf, dx_alloc hw ho hT hid hb ht h1, h2⟩
theorem dc_skip (hw : wantedA ops o0 t = some false) (hh : isHeapO o0 = false) (ha : isAllocO o0 = false) (ht : putT t o0.dst undef = t') (k : DC P B ops base nal r t' H fun xs hs tf Hf => K ((false, undef) :: xs) hs tf Hf) : DC P B ops base nal (o0 :: r) t H K := by
  obtain ⟨xs, hs, tf, Hf, h1, h2⟩ := k; exact ⟨_, _, tf, Hf, dx_skip hw hh ha ht h1, h2⟩
theorem dc_skipH (hw : wantedA ops o0 t = some false) (hh : isHeapO o0 = true) (ht : putT t o0.dst undef = t') (k : DC P B ops base nal r t' H fun xs hs tf Hf => K ((false, undef) :: xs) (H :: hs) tf Hf) : DC P B ops base nal (o0 :: r) t H K := by
  obtain ⟨xs, hs, tf, Hf, h1, h2⟩ := k; exact ⟨_, _, tf, Hf, dx_skipH hw hh ht h1, h2⟩
theorem does_op (h : opA (tyOf P) (eqOf P) B t H o0 = some (v, H')) : DoesP P B o0 t H v H' := .inl h
theorem does_call {fo : Operand} {args : Array Operand} {tys : Array TypeId} {f : FuncId} {caps as as' : List Value} (ho : o0.op = .call ⟨.value fo, args, tys⟩) (hf : evL t fo = some (.func (.func f) #[] ⟨caps⟩)) (ha : evAllL t args.toList = some as) (has : as ++ caps = as') (hr : Runs P f as' H (fun u G => u = v ∧ G = H')) : DoesP P B o0 t H v H' := by
  subst has; exact .inr ⟨fo, args, tys, f, caps, as, ho, hf, ha, hr⟩
/-- What reads again: an operation that is no variable's making. -/
theorem rc_read {i k : Nat} {rl : List (Nat × Nat)} {o : Oper} {Hk : Heap} (ho : ops[i]? = some o) (hx : xs[i]? = some (true, v)) (hk : hs[k]? = some Hk) (ha : isAllocO o = false) (hd : opA (tyOf P) (eqOf P) B tf Hk o = some (v, Hk)) (r : RC P B ops base xs hs tf rl) : RC P B ops base xs hs tf ((i, k) :: rl) :=
  ⟨⟨o, true, v, Hk, ho, hx, hk, fun _ => by
    unfold ReadP
    split
    · rename_i e he; simp [isAllocO, he] at ha
    · exact hd⟩, r⟩
theorem rc_skip {i k : Nat} {rl : List (Nat × Nat)} {o : Oper} {Hk : Heap} (ho : ops[i]? = some o) (hx : xs[i]? = some (false, v)) (hk : hs[k]? = some Hk) (r : RC P B ops base xs hs tf rl) : RC P B ops base xs hs tf ((i, k) :: rl) :=
  ⟨⟨o, false, v, Hk, ho, hx, hk, fun h => by simp at h⟩, r⟩
theorem rc_alloc {i k id : Nat} {rl : List (Nat × Nat)} {o : Oper} {Hk : Heap} {e : TypeId} {d : TyD} (ho : ops[i]? = some o) (hx : xs[i]? = some (true, .pointer (some ⟨id, 0, none⟩))) (hk : hs[k]? = some Hk) (he : o.op = .alloc e) (hT : tyOf P e = some d) (hid : base + cl isAllocO ops.toList i = id) (hb : getB Hk id = some ⟨d.zero, 0, true, d.fl⟩) (r : RC P B ops base xs hs tf rl) : RC P B ops base xs hs tf ((i, k) :: rl) :=
  ⟨⟨o, true, _, Hk, ho, hx, hk, fun _ => by
    subst hid
    unfold ReadP
    rw [he]
    exact ⟨d, hT, rfl, hb⟩⟩, r⟩
theorem rc_nil : RC P B ops base xs hs tf [] := trivial
/-- A region that draws its order, at a heap of variables. -/
theorem Ex_drh {H0 : Heap} {bs bs1 pre : List (Option Blk)} {n id : Nat} (rl : List (Nat × Nat)) (hB : H0.length = B) (hm : P.follows .mixedOrders = true) (hok : drawOk ops = true) (hrl : rcOk ops rl = true) (hn : bs.length = n)
    (hp : pre.length = cl isAllocO ops.toList ops.toList.length) (hpf : pre.all (fun b => match b with | some b => b.cells.all flatV | none => true) = true) (hbs : bs ++ pre = bs1)
    (hw : DC P B ops (B + n) 0 ops.toList t (H0 ++ bs1) fun xs hs tf Hf => RC P B ops (B + n) xs hs tf rl ∧ Q .normal tf Hf) : Ex P B (.region id ops true) t (H0 ++ bs) Q := by
  obtain ⟨xs, hs, tf, Hf, hw, hrc, k⟩ := hw
  have hb : B + n = (H0 ++ bs).length := by simp [hB, hn]
  rw [hb] at hw hrc
  exact Ex_dr hm (pre := pre) rl hok hrl hp hpf (by rw [List.append_assoc, hbs]) hw hrc k
/-- A region that draws its order, where no variable is made. -/
theorem Ex_dr0 {id : Nat} (rl : List (Nat × Nat)) (hm : P.follows .mixedOrders = true) (hok : drawOk ops = true) (hrl : rcOk ops rl = true) (hp : cl isAllocO ops.toList ops.toList.length = 0)
    (hw : DC P B ops H.length 0 ops.toList t H fun xs hs tf Hf => RC P B ops H.length xs hs tf rl ∧ Q .normal tf Hf) : Ex P B (.region id ops true) t H Q := by
  obtain ⟨xs, hs, tf, Hf, hw, hrc, k⟩ := hw
  exact Ex_dr hm (pre := []) rl hok hrl (by rw [hp]; rfl) rfl (by simp) hw hrc k
end
end Go.Proofs.Ytlnkffnabifedaa.Eng
