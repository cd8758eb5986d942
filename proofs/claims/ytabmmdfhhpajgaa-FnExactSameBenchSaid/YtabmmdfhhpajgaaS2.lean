/- A text of this claim (S2): lemmas for the proof, no conditions of their own. -/
import Derived.Test.YtabmmdfhhpajgaaS1
set_option linter.unusedVariables false
set_option linter.unusedSimpArgs false
namespace Go.Proofs.Ytabmmdfhhpajgaa.Eng
open Go Go.RowKit

/-! ### operations on the told side: what is to be shown is told, the rest is computed -/
/-- Something that is left to be shown. -/
structure VC (P : Prop) : Prop where
  h : P
/-- A test: both ways where it is not known. -/
structure splitB (q : Bool) (A B : Prop) : Prop where
  t : q = true → A
  f : q = false → B
theorem splitT {A B : Prop} (h : A) : splitB true A B := ⟨fun _ => h, fun e => by simp at e⟩
theorem splitF {A B : Prop} (h : B) : splitB false A B := ⟨fun e => by simp at e, fun _ => h⟩
def ofV : Value → Option SV
  | .bool b => some (.bool b)
  | .int k n => some (.int k n)
  | .string s => some (.str s.data.toList)
  | .pointer none => some .nilp
  | .slice none 0 0 => some .nils
  | .nilFunc => some .nilf
  | .nilIface => some .nili
  | _ => none
def ofVs : List Value → Option (List SV)
  | [] => some []
  | v :: r => match ofV v with
    | some s => match ofVs r with
      | some l => some (s :: l)
      | none => none
    | none => none
def liveS : SV → Option SV
  | .dead => none
  | v => some v
def evS (t : List SV) : Operand → Option SV
  | .tmp i => match getT t i with | some v => liveS v | none => none
  | .const v => ofV v
  | .func f => some (.fn f [])
  | .global _ => none
def evK (t : List SV) (x : Operand) (K : SV → Prop) : Prop := match evS t x with | some v => K v | none => False
def evsK (t : List SV) : List Operand → (List SV → Prop) → Prop
  | [], K => K []
  | x :: r, K => evK t x fun v => evsK t r fun l => K (v :: l)
def evPK (t : List SV) : List (Nat × Operand) → (List (Nat × SV) → Prop) → Prop
  | [], K => K []
  | (i, x) :: r, K => evK t x fun v => evPK t r fun l => K ((i, v) :: l)
def forceL {α : Type} : List α → (List α → Prop) → Prop
  | [], K => K []
  | v :: r, K => forceL r fun r' => K (v :: r')
def atL {α : Type} : List α → Nat → (α → Prop) → Prop
  | [], _, _ => False
  | a :: _, 0, K => K a
  | _ :: l, n + 1, K => atL l n K
def setK {α : Type} : List α → Nat → α → (List α → Prop) → Prop
  | [], _, _, K => K []
  | _ :: r, 0, v, K => K (v :: r)
  | u :: r, n + 1, v, K => setK r n v fun r' => K (u :: r')
def nums : List Nat := [0, 1, 2, 3, 4, 5, 6, 7, 8, 9, 10, 11, 12, 13, 14, 15, 16, 17, 18, 19, 20, 21, 22, 23, 24, 25, 26, 27, 28, 29, 30, 31, 32, 33, 34, 35, 36, 37, 38, 39, 40, 41, 42, 43, 44, 45, 46, 47, 48, 49, 50, 51, 52, 53, 54, 55, 56, 57, 58, 59, 60, 61, 62, 63, 64, 65, 66, 67, 68, 69, 70, 71, 72, 73, 74, 75, 76, 77, 78, 79, 80, 81, 82, 83, 84, 85, 86, 87, 88, 89, 90, 91, 92, 93, 94, 95, 96, 97, 98, 99]
def pushK (x : SB) : List SB → List Nat → (Nat → List SB → Prop) → Prop
  | [], n :: _, K => K n [x]
  | s :: r, _ :: ns, K => pushK x r ns fun n r' => K n (s :: r')
  | _, [], _ => False
def seg {α : Type} (l : List α) (o n : Nat) : List α := (l.drop o).take n
def spliceS (cs : List SV) (o : Nat) (vs : List SV) : List SV := cs.take o ++ vs ++ cs.drop (o + vs.length)
def cellsS : SV → List SV
  | .agg xs => xs
  | .arrV e l => l.flatMap e.enc
  | v => [v]

/-- The shape that a type's elements are given (a guess: it is checked where it is used). -/
def etFs (g : Nat → Option ET) : List Field → Option ET
  | [] => none
  | [f] => g f.type
  | f :: r => match g f.type with
    | some a => match etFs g r with
      | some b => some (.prod a b)
      | none => none
    | none => none
def etN (a : ET) : Nat → Option ET
  | 0 => none
  | 1 => some a
  | n + 1 => match etN a n with | some b => some (.prod a b) | none => none
def etF (T : Ty) : Nat → Nat → Option ET
  | 0, _ => none
  | n + 1, t => match T t with
    | none => none
    | some d => match d.und with
      | .int k => some (.int k)
      | .bool => some .bool
      | .string => some .str
      | .struct fs => etFs (etF T n) fs.toList
      | .array len e => match etF T n e with | some a => etN a len | none => none
      | _ => none
def decN (e : ET) : Nat → List SV → Option (List e.T)
  | 0, [] => some []
  | 0, _ :: _ => none
  | n + 1, cs => match e.dec cs with
    | some (x, r) => match decN e n r with
      | some l => some (x :: l)
      | none => none
    | none => none

def cnt (d : TyD) : Nat := match aggD d.und with | true => d.size | false => 1
def outS (d : TyD) (cs : List SV) (K : SV → Prop) : Prop :=
  forceL cs fun cs => match aggD d.und with
    | true => K (.agg cs)
    | false => match cs with | [v] => K v | _ => False
def loadS (d : TyD) (S : List SB) (v : SV) (K : SV → Prop) : Prop :=
  match v with
  | .ptr b i o => match getT S b with
    | some (.arr e l _ _) => match Nat.ble (o + cnt d) e.w with
      | true => atL l i fun a => outS d (seg (e.enc a) o (cnt d)) K
      | false => match d.und with
        | .array len _ => match o with
          | 0 => match Nat.beq (len * e.w) d.size with
            | true => VC (i + len ≤ l.length) ∧ K (.arrV e (seg l i len))
            | false => False
          | _ + 1 => False
        | _ => False
    | some (.box cs _ _) => match i with
      | 0 => match Nat.ble (o + cnt d) cs.length with
        | true => outS d (seg cs o (cnt d)) K
        | false => False
      | _ + 1 => False
    | _ => False
  | _ => False
def putB (k : Nat) (S : List SB) (b : Nat) (i o : Nat) (cs : List SV) (K : List SB → Prop) : Prop :=
  match getT S b with
  | some (.arr e l sz true) => match Nat.ble (o + cs.length) e.w with
    | true => atL l i fun a => match e.dec (spliceS (e.enc a) o cs) with
      | some (a', []) => setK S b (.arr e (l.set i a') sz true) K
      | _ => False
    | false => False
  | some (.box cs0 true fl) => match i with
    | 0 => match Nat.ble (o + cs.length) cs0.length with
      | true => match (cs.all flatS || (!fl && Nat.ble k b && cs.all (fun v => match v with | .agg _ => false | .tup _ => false | .arrV _ _ => false | _ => true))) with
        | true => forceL (spliceS cs0 o cs) fun cs' => setK S b (.box cs' true fl) K
        | false => False
      | false => False
    | _ + 1 => False
  | _ => False
/-- A whole row is written. -/
def putA (d : TyD) (S : List SB) (b : Nat) (e : ET) (l : List e.T) (K : List SB → Prop) : Prop :=
  match getT S b with
  | some (.arr e' l0 sz true) => if h : e' = e then VC (l.length = l0.length ∧ l.length * e.w = d.size) ∧ setK S b (.arr e l sz true) K else False
  | _ => False
def putV (k : Nat) (d : TyD) (S : List SB) (b i o : Nat) (y : SV) (K : List SB → Prop) : Prop :=
  forceL (cellsS y) fun cs => match Nat.beq cs.length d.size with
    | true => putB k S b i o cs K
    | false => False
def storeS (k : Nat) (d : TyD) (S : List SB) (v y : SV) (K : List SB → Prop) : Prop :=
  match v with
  | .ptr b i o => match d.und with
    | .array len _ => match i with
      | 0 => match o with
        | 0 => match y with
          | .arrV e l => putA d S b e l K
          | y => forceL (cellsS y) fun cs => match Nat.beq cs.length d.size with
            | true => match getT S b with
              | some (.arr e _ _ _) => match decN e len cs with
                | some l => putA d S b e l K
                | none => False
              | _ => putB k S b 0 0 cs K
            | false => False
        | o + 1 => putV k d S b 0 (o + 1) y K
      | i + 1 => putV k d S b (i + 1) o y K
    | _ => putV k d S b i o y K
  | _ => False
def intS (op : BinOp) (k : IntKind) (a b : Int) (K : SV → Prop) : Prop :=
  match op with
  | .add => K (.int k (k.wrap (a + b)))
  | .sub => K (.int k (k.wrap (a - b)))
  | .mul => K (.int k (k.wrap (a * b)))
  | .quo => VC (b ≠ 0) ∧ K (.int k (k.wrap (a.tdiv b)))
  | .rem => VC (b ≠ 0) ∧ K (.int k (a.tmod b))
  | .eql => K (.bool (decide (a = b)))
  | .neq => K (.bool (decide (a ≠ b)))
  | .lss => K (.bool (decide (a < b)))
  | .leq => K (.bool (decide (a ≤ b)))
  | .gtr => K (.bool (decide (b < a)))
  | .geq => K (.bool (decide (b ≤ a)))
  | _ => False
def strS (op : BinOp) (a b : List UInt8) (K : SV → Prop) : Prop :=
  match op with
  | .add => VC (a.length + b.length ≤ 9223372036854775807) ∧ K (.str (a ++ b))
  | .eql => K (.bool (decide (a = b)))
  | .neq => K (.bool (decide (a ≠ b)))
  | .lss => K (.bool (Op.bytesLess a b))
  | _ => False
def partS (T : Ty) (t : Nat) (cs : List SV) (off : Nat) : Option SV :=
  match T t with
  | some d => match aggD d.und with
    | true => match Nat.ble (off + d.size) cs.length with | true => some (.agg (seg cs off d.size)) | false => none
    | false => getT cs off
  | none => none
def eqFS (T : Ty) (e : Nat → SV → SV → Option Bool) : List Field → List SV → List SV → Option Bool
  | [], _, _ => some true
  | f :: r, xs, ys => match f.name == "_" with
    | true => none
    | false => match partS T f.type xs f.offset with
      | some a => match partS T f.type ys f.offset with
        | some b => match e f.type a b with
          | some p => match r with
            | [] => some p
            | _ :: _ => match eqFS T e r xs ys with
              | some q => some (p && q)
              | none => none
          | none => none
        | none => none
      | none => none
def eqS (T : Ty) (Q : Nat → Bool) : Nat → Nat → SV → SV → Option Bool
  | 0, _, _, _ => none
  | n + 1, t, x, y => match T t with
    | none => none
    | some d => match d.und with
      | .bool => match x, y with | .bool a, .bool b => some (a == b) | _, _ => none
      | .int _ => match x, y with | .int k a, .int k' b => if k = k' then some (decide (a = b)) else none | _, _ => none
      | .string => match x, y with | .str a, .str b => some (decide (a = b)) | _, _ => none
      | .struct fs => match x, y with
        | .agg xs, .agg ys => match Q t with | true => eqFS T (eqS T Q n) fs.toList xs ys | false => none
        | _, _ => none
      | _ => none
def isBoolD : Option TyD → Bool
  | some d => match d.und with | .bool => true | _ => false
  | none => false
def binS (T : Ty) (Q : Nat → Bool) (op : BinOp) (t : Nat) (x y : SV) (K : SV → Prop) : Prop :=
  match x, y with
  | .int k a, .int k' b => match op with
    | .shl => VC (0 ≤ b) ∧ K (.int k (k.wrap (a * 2 ^ (min b.toNat k.bits))))
    | .shr => VC (0 ≤ b) ∧ K (.int k (a.fdiv (2 ^ (min b.toNat k.bits))))
    | op => match decide (k = k') with | true => intS op k a b K | false => False
  | .str a, .str b => strS op a b K
  | .bool a, .bool b => match isBoolD (T t) with
    | true => match op with
      | .eql => K (.bool (a == b))
      | .neq => K (.bool (!(a == b)))
      | _ => False
    | false => False
  | .agg xs, .agg ys => match op with
    | .eql => match eqS T Q 9 t (.agg xs) (.agg ys) with | some r => K (.bool r) | none => False
    | .neq => match eqS T Q 9 t (.agg xs) (.agg ys) with | some r => K (.bool (!r)) | none => False
    | _ => False
  | _, _ => False
def convS (T : Ty) (s d : Nat) (x : SV) (K : SV → Prop) : Prop :=
  match T s with
  | none => False
  | some _ => match T d with
    | none => False
    | some dd => match x with
      | .int _ n => match dd.und with | .int k => K (.int k (k.wrap n)) | _ => False
      | .str b => match dd.und with | .string => K (.str b) | _ => False
      | _ => False
def optK (t : List SV) : Option Operand → (Option Int → Prop) → Prop
  | none, K => K none
  | some x, K => evK t x fun v => match v with | .int _ n => K (some n) | _ => False
def fillS (place : Nat → Option (Nat × Nat)) (cells : List SV) : List (Nat × SV) → Option (List SV)
  | [] => some cells
  | (i, v) :: rest => match place i with
    | none => none
    | some (off, size) => match Nat.beq (cellsS v).length size && Nat.ble (off + (cellsS v).length) cells.length with
      | true => fillS place (spliceS cells off (cellsS v)) rest
      | false => none
def buildS (T : Ty) (d : TyD) (l : List (Nat × SV)) (K : SV → Prop) : Prop :=
  match d.und with
  | .struct fs => match offsL T fs.toList with
    | some pl => match ofVs d.zero with
      | some z => match fillS (fun i => getT pl i) z l with
        | some cs => forceL cs fun cs => K (.agg cs)
        | none => False
      | none => False
    | none => False
  | .array _ e => match T e with
    | some de => match ofVs d.zero with
      | some z => match fillS (fun i => some (i * de.size, de.size)) z l with
        | some cs => forceL cs fun cs => K (.agg cs)
        | none => False
      | none => False
    | none => False
  | _ => False
def repL {α : Type} (z : List α) : Nat → List α
  | 0 => []
  | n + 1 => z ++ repL z n
/-- An element's shape, and what is zero of it. -/
def elemK (T : Ty) (ty : Nat) (K : (e : ET) → e.T → TyD → Prop) : Prop :=
  match T ty with
  | some d => match d.und with
    | .slice el => match T el with
      | some de => match etF T 9 el with
        | some e => match Nat.beq de.size e.w with
          | true => match de.fl with
            | true => match ofVs de.zero with
              | some z => match e.dec z with
                | some (x, []) => K e x de
                | _ => False
              | none => False
            | false => False
          | false => False
        | none => False
      | none => False
    | _ => False
  | none => False
/-- The row that a variable of a type is. -/
def newB (T : Ty) (ty : Nat) (d : TyD) (cs : List SV) (fl : Bool) : Option SB :=
  match fl with
  | false => some (.box cs true false)
  | true => match d.und with
    | .array len el => match T el with
      | some de => match etF T 9 el with
        | some e => match Nat.beq de.size e.w with
          | true => match decN e len cs with
            | some l => some (.arr e l 0 true)
            | none => none
          | false => none
        | none => none
      | none => none
    | _ => match etF T 9 ty with
      | some e => match e.dec cs with
        | some (x, []) => some (.arr e [x] 0 true)
        | _ => some (.box cs true true)
      | none => some (.box cs true true)
def newS (T : Ty) (S : List SB) (ty : Nat) (d : TyD) (cs : List SV) (fl : Bool) (K : Nat → List SB → Prop) : Prop :=
  match newB T ty d cs fl with
  | some x => pushK x S nums K
  | none => False
def sliceS (T : Ty) (ty : Nat) (S : List SB) (v : SV) (lo hi mx : Option Int) (K : SV → Prop) : Prop :=
  match T ty with
  | none => False
  | some d => match v with
    | .str s => match d.und with
      | .string => match mx with
        | none => match lo, hi with
          | none, none => K (.str s)
          | some l, none => VC (0 ≤ l ∧ l ≤ s.length) ∧ K (.str (s.drop l.toNat))
          | none, some h => VC (0 ≤ h ∧ h ≤ s.length) ∧ K (.str (s.take h.toNat))
          | some l, some h => VC (0 ≤ l ∧ l ≤ h ∧ h ≤ s.length) ∧ K (.str ((s.take h.toNat).drop l.toNat))
        | some _ => False
      | _ => False
    | .sl b s n x => match d.und with
      | .slice el => match T el with
        | some de => match getT S b with
          | some (.arr e _ sz _) => match Nat.beq sz de.size && Nat.beq e.w de.size with
            | true => match mx with
              | none => match lo, hi with
                | none, none => K (.sl b s n x)
                | some l, none => VC (0 ≤ l ∧ l ≤ n) ∧ K (.sl b (s + l.toNat) (n - l.toNat) x)
                | none, some h => VC (0 ≤ h ∧ h ≤ n + x) ∧ K (.sl b s h.toNat (n + x - h.toNat))
                | some l, some h => VC (0 ≤ l ∧ l ≤ h ∧ h ≤ n + x) ∧ K (.sl b (s + l.toNat) (h.toNat - l.toNat) (n + x - h.toNat))
              | some m => match hi with
                | none => False
                | some h => VC (0 ≤ lo.getD 0 ∧ lo.getD 0 ≤ h ∧ h ≤ m ∧ m ≤ n + x) ∧ K (.sl b (s + (lo.getD 0).toNat) (h.toNat - (lo.getD 0).toNat) (m.toNat - h.toNat))
            | false => False
          | _ => False
        | none => False
      | _ => False
    | _ => False
def maxS (k : IntKind) : Int → List SV → (SV → Prop) → Prop
  | x, [], K => K (.int k x)
  | x, .int _ y :: r, K => maxS k (if y > x then y else x) r K
  | _, _ :: _, _ => False
def minS (k : IntKind) : Int → List SV → (SV → Prop) → Prop
  | x, [], K => K (.int k x)
  | x, .int _ y :: r, K => minS k (if y < x then y else x) r K
  | _, _ :: _, _ => False
/-- The elements of a slice. -/
def rowS (S : List SB) (e : ET) (v : SV) (K : List e.T → Prop) : Prop :=
  match v with
  | .nils => K []
  | .sl b s n _ => match getT S b with
    | some (.arr e' l _ _) => if h : e' = e then VC (s + n ≤ l.length) ∧ K (seg (h ▸ l) s n) else False
    | _ => False
  | _ => False
def killK (S : List SB) (b : Nat) (K : List SB → Prop) : Prop := setK S b .gone K
def lenS : SV → Option Nat
  | .nils => some 0
  | .sl _ _ n _ => some n
  | _ => none
def appendS (T : Ty) (k ty ty2 : Nat) (S : List SB) (s v : SV) (K : SV → List SB → Prop) : Prop :=
  match Nat.beq ty ty2 with
  | false => False
  | true => elemK T ty fun e z de => match lenS v with
    | none => False
    | some m => (m = 0 → (match s with | .sl _ _ _ _ => K s S | .nils => K s S | _ => False)) ∧ (m ≠ 0 → rowS S e v fun news => match s with
      | .nils => VC (m * de.bytes ≤ 140737488355328 ∧ m ≤ 9223372036854775807) ∧ pushK (.arr e news de.size true) S nums fun n S' => K (.sl n 0 m 0) S'
      | .sl b st n x => rowS S e s fun olds => VC ((n + m) * de.bytes ≤ 140737488355328 ∧ n + m ≤ 9223372036854775807) ∧ match x with
        | 0 => (match getT S b with
          | some (.arr _ _ sz true) => match Nat.beq sz de.size with
            | true => killK S b fun S1 => pushK (.arr e (olds ++ news) de.size true) S1 nums fun n' S' => K (.sl n' 0 (n + m) 0) S'
            | false => False
          | _ => False)
        | x + 1 => False
      | _ => False)
def opS (T : Ty) (Q : Nat → Bool) (k : Nat) (t : List SV) (S : List SB) (op : Op) (K : SV → List SB → Prop) : Prop :=
  match op with
  | .move x => evK t x fun v => K v S
  | .assign x => evK t x fun v => K v S
  | .pick c a b => evK t c fun v => match v with
    | .bool q => splitB q (evK t a fun v => K v S) (evK t b fun v => K v S)
    | _ => False
  | .alloc ty => match T ty with
    | some d => match ofVs d.zero with
      | some cs => newS T S ty d cs d.fl fun n S' => K (.ptr n 0 0) S'
      | none => False
    | none => False
  | .box ty x => match T ty with
    | some d => evK t x fun v => match v with
      | .arrV e l => match d.fl with | true => pushK (.arr e l 0 true) S nums fun n S' => K (.ptr n 0 0) S' | false => False
      | v => match !d.fl || (cellsS v).all flatS with
        | true => newS T S ty d (cellsS v) d.fl fun n S' => K (.ptr n 0 0) S'
        | false => False
    | none => False
  | .build ty parts => match T ty with
    | some d => evPK t parts.toList fun l => buildS T d l fun v => K v S
    | none => False
  | .buildSlice ty len parts => elemK T ty fun e z de => evPK t parts.toList fun l => match Nat.ble (len * de.size) 16777216 with
    | true => match ofVs de.zero with
      | some zs => match fillS (fun i => some (i * de.size, de.size)) (repL zs len) l with
        | some cs => match decN e len cs with
          | some l => pushK (.arr e l de.size true) S nums fun n S' => K (.sl n 0 len 0) S'
          | none => False
        | none => False
      | none => False
    | false => False
  | .load ty x => match T ty with
    | some d => evK t x fun v => loadS d S v fun v => K v S
    | none => False
  | .store ty x y => match T ty with
    | some d => evK t x fun v => evK t y fun u => storeS k d S v u fun S' => K (.tup []) S'
    | none => False
  | .nilCheck x => evK t x fun v => match v with
    | .ptr b i o => K v S
    | .fn f xs => K v S
    | _ => False
  | .binOp op ty x y _ => evK t x fun v => evK t y fun u => binS T Q op ty v u fun v => K v S
  | .unOp op _ x => evK t x fun v => match op with
    | .neg => match v with | .int k n => K (.int k (k.wrap (0 - n))) S | _ => False
    | .not => match v with | .bool b => K (.bool (!b)) S | _ => False
    | _ => False
  | .convert s d x => evK t x fun v => convS T s d v fun v => K v S
  | .makeFunc f first caps => match f with
    | .func f => match first.toList with
      | [] => evsK t caps.toList fun l => K (.fn f l) S
      | _ :: _ => False
    | _ => False
  | .makeSlice ty l c => elemK T ty fun e z de => evK t l fun v => evK t c fun u => match v with
    | .int _ n => match u with
      | .int _ m => VC (0 ≤ n ∧ n = m ∧ (de.bytes : Int) * n ≤ 281474976710656 ∧ n ≤ 9223372036854775807) ∧ pushK (.arr e (List.replicate n.toNat z) de.size true) S nums fun b S' => K (.sl b 0 n.toNat 0) S'
      | _ => False
    | _ => False
  | .slice ty x lo hi mx => evK t x fun v => optK t lo fun l => optK t hi fun h => optK t mx fun m => sliceS T ty S v l h m fun v => K v S
  | .fieldAddr ty x f => evK t x fun v => match v with
    | .ptr b i o => match T ty with
      | some d => match d.und with
        | .struct fs => match getT fs.toList f with
          | some fd => match T fd.type with
            | some df => match Nat.beq df.size 0 with
              | true => False
              | false => K (.ptr b i (o + fd.offset)) S
            | none => False
          | none => False
        | _ => False
      | none => False
    | _ => False
  | .field ty x f => evK t x fun v => match v with
    | .agg xs => match T ty with
      | some d => match d.und with
        | .struct fs => match getT fs.toList f with
          | some fd => match T fd.type with
            | some df => match Nat.ble (fd.offset + cnt df) xs.length with
              | true => outS df (seg xs fd.offset (cnt df)) fun v => K v S
              | false => False
            | none => False
          | none => False
        | _ => False
      | none => False
    | _ => False
  | .indexAddr ty x i => evK t x fun v => evK t i fun u => match T ty with
    | some d => match u with
      | .int _ n => match d.und with
        | .slice el => match v with
          | .sl b s len x => match T el with
            | some de => match getT S b with
              | some (.arr e l _ _) => match Nat.beq e.w de.size with
                | true => VC (0 ≤ n ∧ n < (len : Int)) ∧ K (.ptr b (s + n.toNat) 0) S
                | false => False
              | _ => False
            | none => False
          | _ => False
        | .array len el => match v with
          | .ptr b i 0 => match T el with
            | some de => match getT S b with
              | some (.arr e l _ _) => match Nat.beq e.w de.size with
                | true => VC (0 ≤ n ∧ n < (len : Int)) ∧ K (.ptr b (i + n.toNat) 0) S
                | false => False
              | _ => False
            | none => False
          | _ => False
        | _ => False
      | _ => False
    | none => False
  | .index ty x i => evK t x fun v => evK t i fun u => match T ty with
    | some d => match u with
      | .int _ n => match d.und with
        | .string => match v with
          | .str s => VC (0 ≤ n) ∧ atL s n.toNat fun c => K (.int .u8 (c.toNat : Int)) S
          | _ => False
        | .array len el => match v with
          | .arrV e l => match T el with
            | some de => match Nat.beq e.w de.size with
              | true => VC (0 ≤ n ∧ n < (len : Int)) ∧ atL l n.toNat fun a => outS de (e.enc a) fun v => K v S
              | false => False
            | none => False
          | .agg cs => match T el with
            | some de => match aggD de.und with
              | true => False
              | false => match Nat.beq de.size 1 with
                | true => VC (0 ≤ n ∧ n < (len : Int)) ∧ atL cs n.toNat fun v => K v S
                | false => False
            | none => False
          | _ => False
        | _ => False
      | _ => False
    | none => False
  | .extract x i => evK t x fun v => match v with
    | .tup vs => match getT vs i with | some v => K v S | none => False
    | _ => False
  | .call c => match c.callee with
    | .builtin b => evsK t c.args.toList fun l => match b with
      | .len => match c.argTypes.toList with
        | ty :: _ => match l with
          | x :: _ => match T ty with
            | some d => match d.und with
              | .string => match x with | .str s => K (.int .i64 s.length) S | _ => False
              | .array n _ => K (.int .i64 n) S
              | .slice _ => match x with
                | .sl _ _ n _ => K (.int .i64 n) S
                | .opt _ _ n _ => K (.int .i64 n) S
                | .nils => K (.int .i64 0) S
                | _ => False
              | _ => False
            | none => False
          | [] => False
        | [] => False
      | .max => match l with | .int k x :: r => maxS k x r fun v => K v S | _ => False
      | .min => match l with | .int k x :: r => minS k x r fun v => K v S | _ => False
      | .append => match c.argTypes.toList with
        | [t1, t2] => match l with
          | [s, x] => appendS T k t1 t2 S s x K
          | _ => False
        | _ => False
      | _ => False
    | _ => False
  | _ => False
end Go.Proofs.Ytabmmdfhhpajgaa.Eng
