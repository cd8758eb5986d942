/- A text of this claim (E5): lemmas for the proof, no conditions of their own. -/
import Derived.Test.YtabmmdfhhpajgaaE4
import Derived.Laws.AppendOwn
import Derived.Laws.MakeOwn
import Derived.Laws.Tables
set_option linter.unusedVariables false
set_option linter.unusedSimpArgs false
namespace Go.Proofs.Ytabmmdfhhpajgaa.Eng
open Go Go.RowKit

/-! ### what an operation does on the abstract side -/
def evParts (t : List Value) : List (Nat × Operand) → Option (List (Nat × Value))
  | [] => some []
  | (i, x) :: r => match evL t x, evParts t r with | some v, some l => some ((i, v) :: l) | _, _ => none
def evAll (t : List Value) : List Operand → Option (List Value)
  | [] => some []
  | x :: r => match ev t x, evAll t r with | some v, some l => some (v :: l) | _, _ => none
def evAllL (t : List Value) : List Operand → Option (List Value)
  | [] => some []
  | x :: r => match evL t x, evAllL t r with | some v, some l => some (v :: l) | _, _ => none
def newA (H : Heap) (b : Blk) : Option (Value × Heap) :=
  some (.pointer (some ⟨H.length, 0, none⟩), H ++ [some b])
def buildA (T : Ty) (ty : Nat) (parts : List (Nat × Value)) : Option Value :=
  match T ty with
  | some d => match d.und with
    | .struct fs => match offsL T fs.toList with
      | some pl => (fillL (fun i => pl[i]?) d.zero parts).map fun cs => .agg ⟨cs⟩
      | none => none
    | .array _ e => match T e with
      | some de => (fillL (fun i => some (i * de.size, de.size)) d.zero parts).map fun cs => .agg ⟨cs⟩
      | none => none
    | _ => none
  | none => none
/-- n elements that are zero. -/
def zerosL (z : List Value) : Nat → List Value
  | 0 => []
  | n + 1 => z ++ zerosL z n
def elemT (T : Ty) (ty : Nat) : Option (Nat × TyD) :=
  match T ty with
  | some d => match d.und with
    | .slice e => (T e).map fun de => (e, de)
    | _ => none
  | none => none
def buildSliceA (T : Ty) (ty len : Nat) (parts : List (Nat × Value)) (H : Heap) : Option (Value × Heap) :=
  match elemT T ty with
  | some (e, de) => if len * de.size ≤ 16777216 then
      match fillL (fun i => some (i * de.size, de.size)) (zerosL de.zero len) parts with
      | some cs => some (.slice (some ⟨H.length, 0, none⟩) len (len + 1), H ++ [some ⟨cs, de.size, true, de.fl && cs.all flatV⟩])
      | none => none
    else none
  | none => none
def makeSliceA (T : Ty) (ty : Nat) (l c : Value) (H : Heap) : Option (Value × Heap) :=
  match elemT T ty, l, c with
  | some (e, de), .int k n, .int k' m => if 0 ≤ n ∧ n = m ∧ (de.bytes : Int) * n ≤ 281474976710656 ∧ n ≤ 9223372036854775807 then
      some (.slice (some ⟨H.length, 0, none⟩) n.toNat (n.toNat + 1), H ++ [some ⟨zerosL de.zero n.toNat, de.size, true, de.fl⟩]) else none
  | _, _, _ => none
def loadVarA (T : Ty) (ty : Nat) (x : Value) (H : Heap) : Option Value :=
  match x, T ty with
  | .pointer (some a), some d => match loadA H a.block a.off (if aggD d.und = true then d.size else 1) with
    | some cs => if aggD d.und = true then some (.agg ⟨cs⟩) else cs[0]?
    | none => none
  | _, _ => none
def storeVarA (T : Ty) (B ty : Nat) (x y : Value) (H : Heap) : Option Heap :=
  match x, T ty with
  | .pointer (some a), some d => if (cellsL y).length = d.size then storeA B H a.block a.off (cellsL y) else none
  | _, _ => none
def fieldAtA (T : Ty) (ty : Nat) (x : Value) (f : Nat) : Option Value :=
  match x, T ty with
  | .pointer (some a), some d => match d.und with
    | .struct fs => match fs[f]? with
      | some fd => match T fd.type with
        | some df => if df.size = 0 then none else some (.pointer (some ⟨a.block, a.off + fd.offset, none⟩))
        | none => none
      | none => none
    | _ => none
  | _, _ => none
def fieldA (T : Ty) (ty : Nat) (x : Value) (f : Nat) : Option Value :=
  match x, T ty with
  | .agg cs, some d => match d.und with
    | .struct fs => match fs[f]? with
      | some fd => partL T fd.type cs.toList fd.offset
      | none => none
    | _ => none
  | _, _ => none
def indexAtA (T : Ty) (ty : Nat) (x i : Value) : Option Value :=
  match T ty, i with
  | some d, .int _ n => match d.und, x with
    | .array len e, .pointer (some a) => match T e with
      | some de => if 0 ≤ n ∧ n < (len : Int) then some (.pointer (some ⟨a.block, a.off + n.toNat * de.size, none⟩)) else none
      | none => none
    | .slice e, .slice (some a) len _ => match T e with
      | some de => if 0 ≤ n ∧ n < (len : Int) then some (.pointer (some ⟨a.block, a.off + n.toNat * de.size, none⟩)) else none
      | none => none
    | _, _ => none
  | _, _ => none
def indexA (T : Ty) (ty : Nat) (x i : Value) : Option Value :=
  match T ty, i with
  | some d, .int _ n => match d.und, x with
    | .array len e, .agg cs => match T e with
      | some de => if 0 ≤ n ∧ n < (len : Int) then partL T e cs.toList (n.toNat * de.size) else none
      | none => none
    | .string, .string s => if 0 ≤ n then (s.data.toList[n.toNat]?).map fun b => .int .u8 (b.toNat : Int) else none
    | _, _ => none
  | _, _ => none
def intOf? : Option Value → Option (Option Int)
  | none => some none
  | some (.int _ n) => some (some n)
  | some _ => none
/-- A cut: lo, hi, max as numbers. -/
def sliceA (T : Ty) (ty : Nat) (x : Value) (lo hi mx : Option Int) (H : Heap) : Option Value :=
  match T ty with
  | some d => match d.und, x with
    | .string, .string s =>
      if mx.isNone = true ∧ 0 ≤ lo.getD 0 ∧ lo.getD 0 ≤ hi.getD s.size ∧ hi.getD s.size ≤ (s.size : Int) then some (.string (s.extract (lo.getD 0).toNat (hi.getD s.size).toNat)) else none
    | .slice e, .slice none 0 0 => match T e with
      | some _ => if (lo.getD 0) = 0 ∧ (hi.getD 0) = 0 ∧ mx.isNone = true then some (.slice none 0 0) else none
      | none => none
    | .slice e, .slice (some a) n c => match T e, getB H a.block with
      | some de, some b => if b.sz = de.size then
        match mx with
        | none => if 0 ≤ lo.getD 0 ∧ lo.getD 0 ≤ hi.getD n ∧ (hi.getD n ≤ (n : Int) ∨ hi.getD n < (c : Int)) ∧ (c = 0 ∨ lo.getD 0 < (c : Int)) then
            some (.slice (some ⟨a.block, a.off + (lo.getD 0).toNat * de.size, none⟩) ((hi.getD n).toNat - (lo.getD 0).toNat) (c - (lo.getD 0).toNat)) else none
        | some m => if hi.isSome = true ∧ 0 ≤ lo.getD 0 ∧ lo.getD 0 ≤ hi.getD n ∧ hi.getD n ≤ m ∧ (m ≤ (n : Int) ∨ m < (c : Int)) then
            some (.slice (some ⟨a.block, a.off + (lo.getD 0).toNat * de.size, none⟩) ((hi.getD n).toNat - (lo.getD 0).toNat) (m.toNat - (lo.getD 0).toNat + 1)) else none
        else none
      | _, _ => none
    | _, _ => none
  | none => none
def convA (T : Ty) (s d : Nat) (x : Value) : Option Value :=
  match T s, T d, x with
  | some ds, some dd, .int _ n => match dd.und with | .int k => some (.int k (k.wrap n)) | _ => none
  | some ds, some dd, .string b => match dd.und with | .string => some (.string b) | _ => none
  | _, _, _ => none
def lenA (T : Ty) (ty : Nat) (x : Value) : Option Value :=
  match T ty with
  | some d => match d.und, x with
    | .string, .string s => some (.int .i64 s.size)
    | .array n _, _ => some (.int .i64 n)
    | .slice _, .slice _ n _ => some (.int .i64 n)
    | _, _ => none
  | none => none
def maxA : Value → List Value → Option Value
  | x, [] => some x
  | .int k x, .int _ y :: r => maxA (.int k (if y > x then y else x)) r
  | _, _ => none
def minA : Value → List Value → Option Value
  | x, [] => some x
  | .int k x, .int _ y :: r => minA (.int k (if y < x then y else x)) r
  | _, _ => none
/-- The cells of n elements of a slice. -/
def rowA (H : Heap) (size : Nat) : Value → Nat → Option (List Value)
  | .slice (some a) n c, m => if m ≤ n then loadA H a.block a.off (m * size) else none
  | .slice none 0 0, m => if m = 0 then some [] else none
  | _, _ => none
def appendA (T : Ty) (B ty ty2 : Nat) (s x : Value) (H : Heap) : Option (Value × Heap) :=
  if ty = ty2 then
    match elemT T ty, x with
    | some (e, de), .slice xa m xc =>
      if m = 0 then (match s with | .slice _ _ _ => some (s, H) | _ => none) else
      match rowA H de.size (.slice xa m xc) m with
      | none => none
      | some news =>
        let fl := de.fl
        match s with
        | .slice none 0 0 => if m * de.bytes ≤ 140737488355328 ∧ m ≤ 9223372036854775807 ∧ news.all (·.oneCell') = true then
            some (.slice (some ⟨H.length, 0, none⟩) m (m + 1), H ++ [some ⟨news, de.size, true, fl && news.all flatV⟩]) else none
        | .slice (some a) n c =>
          if (n + m) * de.bytes ≤ 140737488355328 ∧ n + m ≤ 9223372036854775807 ∧ news.all (·.oneCell') = true then
            match loadA H a.block a.off (n * de.size) with
            | none => none
            | some olds =>
              if c = 0 then some (.slice (some ⟨H.length, 0, none⟩) (n + m) (n + m + 1), H ++ [some ⟨olds ++ news, de.size, true, fl && (olds ++ news).all flatV⟩])
              else if n + m < c then (storeA B H a.block (a.off + n * de.size) news).map fun H' => (.slice (some a) (n + m) c, H')
              else match getB H a.block with
                | some b => if b.wr = true ∧ b.sz = de.size then
                    some (.slice (some ⟨H.length, 0, none⟩) (n + m) (n + m + 1), H.set a.block none ++ [some ⟨olds ++ news, de.size, true, fl && (olds ++ news).all flatV⟩]) else none
                | none => none
          else none
        | _ => none
    | _, _ => none
  else none
def copyA (T : Ty) (B ty : Nat) (d s : Value) (H : Heap) : Option (Value × Heap) :=
  match elemT T ty, d, s with
  | some (e, de), .slice da n _, .slice _ m _ =>
    if min m n = 0 then some (.int .i64 0, H) else
    match rowA H de.size s (min m n), da with
    | some cs, some a => (storeA B H a.block a.off cs).map fun H' => (.int .i64 ((min m n : Nat) : Int), H')
    | _, _ => none
  | _, _, _ => none
def clearA (T : Ty) (B ty : Nat) (x : Value) (H : Heap) : Option (Value × Heap) :=
  match elemT T ty, x with
  | some (e, de), .slice xa n _ => if n = 0 then some (undef, H) else
    match xa with
    | some a => (storeA B H a.block a.off (zerosL de.zero n)).map fun H' => (undef, H')
    | none => none
  | _, _ => none

def builtinA (T : Ty) (B : Nat) (b : Builtin) (tys : List Nat) (args : List Value) (H : Heap) : Option (Value × Heap) :=
  match b, tys, args with
  | .len, ty :: _, x :: _ => (lenA T ty x).map (·, H)
  | .max, _, x :: r => (maxA x r).map (·, H)
  | .min, _, x :: r => (minA x r).map (·, H)
  | .append, [t1, t2], [s, x] => appendA T B t1 t2 s x H
  | .copy, t1 :: _, [d, s] => copyA T B t1 d s H
  | .clear, [ty], [x] => clearA T B ty x H
  | _, _, _ => none

def optInt (t : List Value) : Option Operand → Option (Option Int)
  | none => some none
  | some x => match evL t x with | some (.int _ n) => some (some n) | _ => none

def opA (T : Ty) (eqOk : Nat → Bool) (B : Nat) (t : List Value) (H : Heap) (o : Oper) : Option (Value × Heap) :=
  match o.op with
  | .move x => (ev t x).map (·, H)
  | .assign x => (ev t x).map (·, H)
  | .pick c a b => match evL t c with
    | some (.bool q) => if q = true then (ev t a).map (·, H) else (ev t b).map (·, H)
    | _ => none
  | .alloc e => match T e with | some d => newA H ⟨d.zero, 0, true, d.fl⟩ | none => none
  | .box e x => match T e, evL t x with | some d, some v => newA H ⟨cellsL v, 0, true, d.fl && (cellsL v).all flatV⟩ | _, _ => none
  | .build ty parts => match evParts t parts.toList with | some l => (buildA T ty l).map (·, H) | none => none
  | .buildSlice ty len parts => match evParts t parts.toList with | some l => buildSliceA T ty len l H | none => none
  | .load ty x => match evL t x with | some v => (loadVarA T ty v H).map (·, H) | none => none
  | .store ty x y => match evL t x, evL t y with | some a, some v => (storeVarA T B ty a v H).map (undef, ·) | _, _ => none
  | .nilCheck x => match evL t x with | some (.pointer (some a)) => some (.pointer (some a), H) | some (.func f fs cs) => some (.func f fs cs, H) | _ => none
  | .binOp op ty x y _ => match evL t x, evL t y with | some a, some b => (binA T eqOk op ty a b).map (·, H) | _, _ => none
  | .unOp op _ x => match evL t x with | some a => (unA op a).map (·, H) | none => none
  | .convert s d x => match evL t x with | some a => (convA T s d a).map (·, H) | none => none
  | .makeFunc (.func f) first caps => if first.size = 0 then (evAllL t caps.toList).map fun l => (.func (.func f) #[] ⟨l⟩, H) else none
  | .makeSlice ty l c => match evL t l, evL t c with | some a, some b => makeSliceA T ty a b H | _, _ => none
  | .slice ty x lo hi mx => match evL t x, optInt t lo, optInt t hi, optInt t mx with
    | some v, some l, some h, some m => (sliceA T ty v l h m H).map (·, H)
    | _, _, _, _ => none
  | .fieldAddr ty x f => match evL t x with | some v => (fieldAtA T ty v f).map (·, H) | none => none
  | .field ty x f => match evL t x with | some v => (fieldA T ty v f).map (·, H) | none => none
  | .indexAddr ty x i => match evL t x, evL t i with | some v, some n => (indexAtA T ty v n).map (·, H) | _, _ => none
  | .index ty x i => match evL t x, evL t i with | some v, some n => (indexA T ty v n).map (·, H) | _, _ => none
  | .extract x i => match evL t x with | some (.tuple vs) => (vs.toList[i]?).map (·, H) | _ => none
  | .call ⟨.builtin b, args, tys⟩ => match evAllL t args.toList with | some l => builtinA T B b tys.toList l H | none => none
  | _ => none
end Go.Proofs.Ytabmmdfhhpajgaa.Eng
