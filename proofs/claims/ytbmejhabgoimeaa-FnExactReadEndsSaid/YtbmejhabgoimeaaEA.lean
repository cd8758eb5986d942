/- A text of this claim (EA): lemmas for the proof, no conditions of their own. -/
import Derived.Orders
import Derived.Below
import Derived.LoopN
import Derived.Laws.CopyRow
import Derived.Laws.Rows
import Derived.Laws.Entries
import Derived.Laws.StructEq
import Derived.Laws.AppendOwn
import Derived.Laws.MakeOwn
import Derived.Laws.Tables
set_option linter.unusedVariables false
namespace Go.Proofs.Ytbmejhabgoimeaa.Eng
open Go Go.RowKit

/-- Where an abstract row lies: block, first cell, how many cells there are from there on, the cells of an element. -/
structure Loc where
  blk : Nat
  off : Nat
  avail : Nat
  sz : Nat

abbrev Ren := Nat → Option Loc

/-- What a variable holds that is not read any more. -/
def dead : Value := .chan none

/-- An abstract value and a value of the machine: blocks renamed, capacities at least as told. -/
inductive VRel (ι : Ren) : Value → Value → Prop
  | bool (b : Bool) : VRel ι (.bool b) (.bool b)
  | int (k : IntKind) (n : Int) : VRel ι (.int k n) (.int k n)
  | str (s : ByteArray) : VRel ι (.string s) (.string s)
  | nilPtr : VRel ι (.pointer none) (.pointer none)
  | nilFunc : VRel ι .nilFunc .nilFunc
  | nilIface : VRel ι .nilIface .nilIface
  | ptr (b o : Nat) (L : Loc) (h : ι b = some L) : VRel ι (.pointer (some ⟨b, o, none⟩)) (.pointer (some ⟨L.blk, L.off + o, none⟩))
  | nilSl : VRel ι (.slice none 0 0) (.slice none 0 0)
  | sl (b o n c : Nat) (L : Loc) (a' : Addr) (c' : Nat) (h : ι b = some L) (hn : n ≤ c') (hz : c = 0 → c' = 0) (hl : c ≤ c' + 1) (hx : o + c' * L.sz ≤ L.avail)
      (ha : a' = ⟨L.blk, L.off + o, none⟩ ∨ c' = 0) : VRel ι (.slice (some ⟨b, o, none⟩) n c) (.slice (some a') n c')
  | agg (xs ys : List Value) (hl : xs.length = ys.length) (h : ∀ (i : Nat) (v v' : Value), xs[i]? = some v → ys[i]? = some v' → VRel ι v v') : VRel ι (.agg ⟨xs⟩) (.agg ⟨ys⟩)
  | tuple (xs ys : List Value) (hl : xs.length = ys.length) (h : ∀ (i : Nat) (v v' : Value), xs[i]? = some v → ys[i]? = some v' → VRel ι v v') : VRel ι (.tuple ⟨xs⟩) (.tuple ⟨ys⟩)
  | func (f : FuncId) (xs ys : List Value) (hl : xs.length = ys.length) (h : ∀ (i : Nat) (v v' : Value), xs[i]? = some v → ys[i]? = some v' → VRel ι v v') : VRel ι (.func (.func f) #[] ⟨xs⟩) (.func (.func f) #[] ⟨ys⟩)

/-- Lists of values, one by one. -/
def LRel (ι : Ren) (xs ys : List Value) : Prop := xs.length = ys.length ∧ ∀ (i : Nat) (v v' : Value), xs[i]? = some v → ys[i]? = some v' → VRel ι v v'

theorem VRel.mono {ι ι' : Ren} (hm : ∀ id L, ι id = some L → ι' id = some L) {v v' : Value} (h : VRel ι v v') : VRel ι' v v' := by
  induction h with
  | bool b => exact .bool b
  | int k n => exact .int k n
  | str s => exact .str s
  | nilPtr => exact .nilPtr
  | nilFunc => exact .nilFunc
  | nilIface => exact .nilIface
  | ptr b o L h => exact .ptr b o L (hm _ _ h)
  | nilSl => exact .nilSl
  | sl b o n c L a' c' h hn hz hl hx ha => exact .sl b o n c L a' c' (hm _ _ h) hn hz hl hx ha
  | agg xs ys hl _ ih => exact .agg xs ys hl ih
  | tuple xs ys hl _ ih => exact .tuple xs ys hl ih
  | func f xs ys hl _ ih => exact .func f xs ys hl ih

theorem LRel.mono {ι ι' : Ren} (hm : ∀ id L, ι id = some L → ι' id = some L) {xs ys : List Value} (h : LRel ι xs ys) : LRel ι' xs ys :=
  ⟨h.1, fun i v v' a b => (h.2 i v v' a b).mono hm⟩

theorem LRel.nil (ι : Ren) : LRel ι [] [] := ⟨rfl, fun i v v' h => by simp at h⟩
theorem LRel.cons {ι : Ren} {v v' : Value} {xs ys : List Value} (h : VRel ι v v') (hs : LRel ι xs ys) : LRel ι (v :: xs) (v' :: ys) :=
  ⟨by simp [hs.1], fun i a a' h1 h2 => by
    cases i with
    | zero => simp at h1 h2; subst h1; subst h2; exact h
    | succ i => simp at h1 h2; exact hs.2 i a a' h1 h2⟩
theorem LRel.inv_cons {ι : Ren} {v : Value} {xs ys : List Value} (h : LRel ι (v :: xs) ys) : ∃ v' ys', ys = v' :: ys' ∧ VRel ι v v' ∧ LRel ι xs ys' := by
  cases ys with
  | nil => have := h.1; simp at this
  | cons v' ys' => exact ⟨v', ys', rfl, h.2 0 v v' (by simp) (by simp), by have := h.1; simp at this; exact this, fun i a a' h1 h2 => h.2 (i + 1) a a' (by simpa using h1) (by simpa using h2)⟩
theorem LRel.get {ι : Ren} {xs ys : List Value} (h : LRel ι xs ys) {i : Nat} {v : Value} (hv : xs[i]? = some v) : ∃ v', ys[i]? = some v' ∧ VRel ι v v' := by
  have hi : i < xs.length := (List.getElem?_eq_some_iff.1 hv).1
  have hi' : i < ys.length := h.1 ▸ hi
  exact ⟨ys[i], by simp [hi'], h.2 i v _ hv (by simp [hi'])⟩
theorem LRel.append {ι : Ren} {xs ys us vs : List Value} (h : LRel ι xs ys) (k : LRel ι us vs) : LRel ι (xs ++ us) (ys ++ vs) := by
  refine ⟨by simp [h.1, k.1], fun i v v' h1 h2 => ?_⟩
  by_cases hi : i < xs.length
  · rw [List.getElem?_append_left hi] at h1; rw [List.getElem?_append_left (h.1 ▸ hi)] at h2; exact h.2 i v v' h1 h2
  · have hi1 : xs.length ≤ i := by omega
    have hi2 : ys.length ≤ i := by have := h.1; omega
    rw [List.getElem?_append_right hi1] at h1; rw [List.getElem?_append_right hi2, ← h.1] at h2; exact k.2 _ v v' h1 h2
theorem LRel.take {ι : Ren} {xs ys : List Value} (h : LRel ι xs ys) (n : Nat) : LRel ι (xs.take n) (ys.take n) := by
  refine ⟨by simp [h.1], fun i v v' h1 h2 => ?_⟩
  rw [List.getElem?_take] at h1 h2
  split at h1 <;> simp_all
  exact h.2 i v v' h1 h2
theorem LRel.drop {ι : Ren} {xs ys : List Value} (h : LRel ι xs ys) (n : Nat) : LRel ι (xs.drop n) (ys.drop n) := by
  refine ⟨by simp [h.1], fun i v v' h1 h2 => ?_⟩
  rw [List.getElem?_drop] at h1 h2
  exact h.2 _ v v' h1 h2
theorem LRel.set {ι : Ren} {xs ys : List Value} (h : LRel ι xs ys) {u u' : Value} (hu : VRel ι u u') (n : Nat) : LRel ι (xs.set n u) (ys.set n u') := by
  refine ⟨by simp [h.1], fun i v v' h1 h2 => ?_⟩
  rw [List.getElem?_set] at h1 h2
  split at h1
  · rename_i e; subst e
    simp only [if_true] at h2
    split at h1 <;> split at h2 <;> simp_all
  · rename_i e; simp only [e, if_false] at h2; exact h.2 i v v' h1 h2
theorem LRel.replicate {ι : Ren} {v v' : Value} (h : VRel ι v v') (n : Nat) : LRel ι (List.replicate n v) (List.replicate n v') := by
  refine ⟨by simp, fun i u u' h1 h2 => ?_⟩
  rw [List.getElem?_replicate] at h1 h2
  split at h1 <;> simp_all

/-- A value that names no block. -/
def flatV : Value → Bool
  | .bool _ | .int _ _ | .string _ | .nilFunc | .nilIface | .pointer none | .slice none 0 0 => true
  | _ => false
theorem VRel.flat {ι : Ren} {v : Value} (h : flatV v = true) : VRel ι v v := by
  unfold flatV at h
  split at h <;> first | exact .bool _ | exact .int _ _ | exact .str _ | exact .nilFunc | exact .nilIface | exact .nilPtr | exact .nilSl | exact absurd h (by simp)
theorem VRel.flat_eq {ι : Ren} {v v' : Value} (h : flatV v = true) (r : VRel ι v v') : v' = v := by
  cases r <;> simp_all [flatV]
theorem VRel.flat_iff {ι : Ren} {v v' : Value} (r : VRel ι v v') : flatV v' = flatV v := by
  cases r <;> simp_all [flatV]
theorem LRel.flat {ι : Ren} {xs : List Value} (h : ∀ v ∈ xs, flatV v = true) : LRel ι xs xs :=
  ⟨rfl, fun i v v' h1 h2 => by rw [h1] at h2; obtain rfl := Option.some.inj h2; exact .flat (h _ (List.mem_of_getElem? h1))⟩

/-- What a variable holds: a value, or nothing that is read. -/
def TRel (ι : Ren) (v v' : Value) : Prop := v = dead ∨ VRel ι v v'
def isDead : Value → Bool | .chan _ => true | _ => false
theorem VRel.alive {ι : Ren} {v v' : Value} (h : VRel ι v v') : isDead v = false := by cases h <;> rfl
theorem TRel.live {ι : Ren} {v v' : Value} (h : TRel ι v v') (hd : isDead v = false) : VRel ι v v' := by
  rcases h with rfl | h
  · simp [dead, isDead] at hd
  · exact h
theorem TRel.mono {ι ι' : Ren} (hm : ∀ id L, ι id = some L → ι' id = some L) {v v' : Value} (h : TRel ι v v') : TRel ι' v v' := h.imp id (VRel.mono hm)

/-- An abstract row of cells. -/
structure Blk where
  cells : List Value
  sz : Nat
  wr : Bool
  fl : Bool
abbrev Heap := List (Option Blk)

/-- The abstract heap lies in the world. -/
structure HRel (w0 : World) (ι : Ren) (H : Heap) (w : World) : Prop where
  below : Below w0.heap.size w0 w
  dom : ∀ id L, ι id = some L → id < H.length
  blk : ∀ (id : Nat) (L : Loc) (b : Blk), ι id = some L → H[id]? = some (some b) → ∃ c e fr, w.heap[L.blk]? = some (.cells c e fr) ∧ L.off + L.avail ≤ c.size ∧ b.cells.length ≤ L.avail ∧ L.sz = b.sz ∧
    (∀ (j : Nat) (v : Value), b.cells[j]? = some v → ∃ v', c[L.off + j]? = some v' ∧ VRel ι v v') ∧ (b.wr = true → w0.heap.size ≤ L.blk ∧ fr = (0, 0))
  sep : ∀ (i j : Nat) (L M : Loc) (b b2 : Blk), ι i = some L → ι j = some M → i ≠ j → H[i]? = some (some b) → b.wr = true → H[j]? = some (some b2) → L.blk ≠ M.blk
  flat : ∀ (id : Nat) (b : Blk), H[id]? = some (some b) → b.fl = true → ∀ v ∈ b.cells, flatV v = true
  tot : ∀ (id : Nat) (b : Blk), H[id]? = some (some b) → (∃ L, ι id = some L) ∨ ∀ v ∈ b.cells, flatV v = true

/-- What v means hangs on the blocks below B alone. -/
def Lt (B : Nat) (v : Value) : Prop := ∀ (ι ι' : Ren) (v' : Value), (∀ id, id < B → ι' id = ι id) → VRel ι v v' → VRel ι' v v'
theorem Lt.flat {B : Nat} {v : Value} (h : flatV v = true) : Lt B v := fun ι ι' v' _ r => by have := r.flat_eq h; subst this; exact .flat h
theorem Lt.of {ι : Ren} {B : Nat} {v v' : Value} (h : VRel ι v v') (hd : ∀ id L, ι id = some L → id < B) : Lt B v := by
  intro ι1 ι2 u hE r
  induction h generalizing u with
  | bool b => cases r; exact .bool b
  | int k n => cases r; exact .int k n
  | str s => cases r; exact .str s
  | nilPtr => cases r; exact .nilPtr
  | nilFunc => cases r; exact .nilFunc
  | nilIface => cases r; exact .nilIface
  | ptr b o L h => cases r with | ptr _ _ L1 h1 => exact .ptr b o L1 (by rw [hE _ (hd _ _ h)]; exact h1)
  | nilSl => cases r; exact .nilSl
  | sl b o n c L a' c' h hn hz hl hx ha => cases r with | sl _ _ _ _ L1 a1 c1 h1 hn1 hz1 hl1 hx1 ha1 => exact .sl b o n c L1 a1 c1 (by rw [hE _ (hd _ _ h)]; exact h1) hn1 hz1 hl1 hx1 ha1
  | agg xs ys hl h ih => cases r with | agg _ ys1 hl1 h1 =>
      refine .agg xs ys1 hl1 fun i a a1 ha ha1 => ?_
      have hi : i < ys.length := by rw [← hl]; exact (List.getElem?_eq_some_iff.1 ha).1
      exact ih i a ys[i] ha (by simp [hi]) a1 (h1 i a a1 ha ha1)
  | tuple xs ys hl h ih => cases r with | tuple _ ys1 hl1 h1 =>
      refine .tuple xs ys1 hl1 fun i a a1 ha ha1 => ?_
      have hi : i < ys.length := by rw [← hl]; exact (List.getElem?_eq_some_iff.1 ha).1
      exact ih i a ys[i] ha (by simp [hi]) a1 (h1 i a a1 ha ha1)
  | func f xs ys hl h ih => cases r with | func _ _ ys1 hl1 h1 =>
      refine .func f xs ys1 hl1 fun i a a1 ha ha1 => ?_
      have hi : i < ys.length := by rw [← hl]; exact (List.getElem?_eq_some_iff.1 ha).1
      exact ih i a ys[i] ha (by simp [hi]) a1 (h1 i a a1 ha ha1)
theorem Lt.mono {B B' : Nat} {v : Value} (h : Lt B v) (hB : B ≤ B') : Lt B' v := fun ι ι' v' hE r => h ι ι' v' (fun id hi => hE id (by omega)) r

/-- Blocks below B name blocks below B alone. -/
def OC (B : Nat) (H : Heap) : Prop := ∀ (id : Nat) (b : Blk) (v : Value), id < B → H[id]? = some (some b) → v ∈ b.cells → Lt B v
/-- What a step keeps. -/
def OCs (B : Nat) (H H' : Heap) : Prop := ∀ B', B' ≤ B → OC B' H → OC B' H'
theorem OCs.refl (B : Nat) (H : Heap) : OCs B H H := fun _ _ h => h
theorem OCs.trans {B : Nat} {H1 H2 H3 : Heap} (h : OCs B H1 H2) (k : OCs B H2 H3) : OCs B H1 H3 := fun B' hB o => k B' hB (h B' hB o)
theorem OCs.mono {B B1 : Nat} {H H' : Heap} (h : OCs B H H') (hB : B1 ≤ B) : OCs B1 H H' := fun B' hB' o => h B' (by omega) o

/-- The renaming grows. -/
def Ext (n : Nat) (ι ι' : Ren) : Prop := ∀ id, id < n → ι' id = ι id
theorem Ext.refl (n : Nat) (ι : Ren) : Ext n ι ι := fun _ _ => rfl
theorem Ext.trans {n m : Nat} {a b c : Ren} (h : Ext n a b) (k : Ext m b c) (hnm : n ≤ m) : Ext n a c := fun id hi => (k id (by omega)).trans (h id hi)
theorem Ext.mono {n m : Nat} {a b : Ren} (h : Ext n a b) (hm : m ≤ n) : Ext m a b := fun id hi => h id (by omega)
theorem HRel.ext {w0 w : World} {ι ι' : Ren} {H : Heap} (h : HRel w0 ι H w) (hE : Ext H.length ι ι') : ∀ id L, ι id = some L → ι' id = some L :=
  fun id L hi => by rw [hE id (h.dom id L hi)]; exact hi

end Go.Proofs.Ytbmejhabgoimeaa.Eng
set_option linter.unusedVariables false
set_option linter.unusedSimpArgs false
namespace Go.Proofs.Ytbmejhabgoimeaa.Eng
open Go Go.RowKit

def getB (H : Heap) (id : Nat) : Option Blk := match H[id]? with | some (some b) => some b | _ => none
theorem getB_eq {H : Heap} {id : Nat} {b : Blk} : getB H id = some b ↔ H[id]? = some (some b) := by
  unfold getB; split <;> simp_all
theorem getB_lt {H : Heap} {id : Nat} {b : Blk} (h : getB H id = some b) : id < H.length := (List.getElem?_eq_some_iff.1 (getB_eq.1 h)).1

def loadA (H : Heap) (id o n : Nat) : Option (List Value) :=
  match getB H id with
  | some b => if o + n ≤ b.cells.length then some ((b.cells.drop o).take n) else none
  | none => none
def splice (cs : List Value) (o : Nat) (vs : List Value) : List Value := cs.take o ++ vs ++ cs.drop (o + vs.length)
theorem splice_length {cs vs : List Value} {o : Nat} (h : o + vs.length ≤ cs.length) : (splice cs o vs).length = cs.length := by
  simp [splice]; omega
def storeA (B : Nat) (H : Heap) (id o : Nat) (vs : List Value) : Option Heap :=
  match getB H id with
  | some b => if b.wr = true ∧ o + vs.length ≤ b.cells.length ∧ vs.all (·.oneCell') = true ∧ ((b.fl = true ∨ id < B) → vs.all flatV = true) then some (H.set id (some { b with cells := splice b.cells o vs })) else none
  | none => none
def upd (ι : Ren) (n : Nat) (L : Loc) : Ren := fun id => if id = n then some L else ι id
theorem upd_ext (ι : Ren) (n : Nat) (L : Loc) : Ext n ι (upd ι n L) := fun id hi => by simp [upd, Nat.ne_of_lt hi]

theorem app_old {H : Heap} {x : Option Blk} {y : Option Blk} {j : Nat} (h : (H ++ [y])[j]? = some x) (hj : j ≠ H.length) : H[j]? = some x := by
  by_cases hl : j < H.length
  · rwa [List.getElem?_append_left hl] at h
  · rw [List.getElem?_eq_none (by simp; omega)] at h; simp at h
theorem app_new {H : Heap} {x : Option Blk} {y : Option Blk} (h : (H ++ [y])[H.length]? = some x) : x = y := by simpa using h.symm

section
variable {w0 w : World} {ι : Ren} {H : Heap} {P : Program}

theorem HRel.n0 (h : HRel w0 ι H w) : w0.heap.size ≤ w.heap.size := h.below.size
theorem HRel.updExt (h : HRel w0 ι H w) (L : Loc) : ∀ id M, ι id = some M → upd ι H.length L id = some M := h.ext (upd_ext ι H.length L)
theorem HRel.lt (h : HRel w0 ι H w) {id : Nat} {L : Loc} {b : Blk} (hi : ι id = some L) (hb : H[id]? = some (some b)) : L.blk < w.heap.size := by
  obtain ⟨c, e, fr, hc, _⟩ := h.blk id L b hi hb
  exact (Array.getElem?_eq_some_iff.1 hc).1

theorem HRel.drewW (h : HRel w0 ι H w) (n : Nat) : HRel w0 ι H { w with drawn := n } :=
  ⟨⟨h.below.os, h.below.tape, h.below.output, h.below.size, h.below.block⟩, h.dom, h.blk, h.sep, h.flat, h.tot⟩

/-- A new block. -/
theorem HRel.push (h : HRel w0 ι H w) (b : Blk) (c : Array Value) (e : TypeId) (hl : b.cells.length ≤ c.size)
    (hc : ∀ (j : Nat) (v : Value), b.cells[j]? = some v → ∃ v', c[j]? = some v' ∧ VRel ι v v') (hf : b.fl = true → ∀ v ∈ b.cells, flatV v = true) :
    HRel w0 (upd ι H.length ⟨w.heap.size, 0, c.size, b.sz⟩) (H ++ [some b]) (w.alloc (.cells c e)) := by
  have hext := h.updExt ⟨w.heap.size, 0, c.size, b.sz⟩
  have old : ∀ (id : Nat) (x : Option Blk), (H ++ [some b])[id]? = some x → id ≠ H.length → H[id]? = some x := fun id x hx hne => app_old hx hne
  have new : ∀ (x : Option Blk), (H ++ [some b])[H.length]? = some x → x = some b := fun x hx => app_new hx
  have updo : ∀ id, id ≠ H.length → upd ι H.length ⟨w.heap.size, 0, c.size, b.sz⟩ id = ι id := fun id hne => by simp [upd, hne]
  have updn : upd ι H.length ⟨w.heap.size, 0, c.size, b.sz⟩ H.length = some ⟨w.heap.size, 0, c.size, b.sz⟩ := by simp [upd]
  refine ⟨h.below.alloc h.n0 _, ?_, ?_, ?_, ?_, ?_⟩
  · intro id L hi
    by_cases he : id = H.length
    · subst he; simp
    · rw [updo id he] at hi; have := h.dom id L hi; simp; omega
  · intro id L b1 hi hb
    by_cases he : id = H.length
    · subst he
      rw [updn] at hi
      obtain rfl := Option.some.inj hi
      obtain rfl := Option.some.inj (new _ hb)
      refine ⟨c, e, (0, 0), by show (w.heap.push _)[w.heap.size]? = _; simp, by simp, hl, rfl, ?_, fun _ => ⟨h.n0, rfl⟩⟩
      intro j v hv
      obtain ⟨v', h1, h2⟩ := hc j v hv
      exact ⟨v', by simpa using h1, h2.mono hext⟩
    · rw [updo id he] at hi
      have hb' := old id _ hb he
      obtain ⟨c1, e1, fr, hc1, ha, hb1, hs, hcell, hw⟩ := h.blk id L b1 hi hb'
      refine ⟨c1, e1, fr, ?_, ha, hb1, hs, ?_, hw⟩
      · rw [Below.heap_alloc _ _ _ (h.lt hi hb')]; exact hc1
      · intro j v hv
        obtain ⟨v', h1, h2⟩ := hcell j v hv
        exact ⟨v', h1, h2.mono hext⟩
  · intro i j L M b1 b2 hi hj hne hb1 hw1 hb2
    by_cases hi0 : i = H.length
    · subst hi0
      have hj0 : j ≠ H.length := fun e => hne e.symm
      rw [updn] at hi; obtain rfl := Option.some.inj hi
      rw [updo j hj0] at hj
      have := h.lt hj (old j _ hb2 hj0)
      simp; omega
    · by_cases hj0 : j = H.length
      · subst hj0
        rw [updn] at hj; obtain rfl := Option.some.inj hj
        rw [updo i hi0] at hi
        have := h.lt hi (old i _ hb1 hi0)
        simp; omega
      · rw [updo i hi0] at hi; rw [updo j hj0] at hj
        exact h.sep i j L M b1 b2 hi hj hne (old i _ hb1 hi0) hw1 (old j _ hb2 hj0)
  · intro id b1 hb hfl v hv
    by_cases he : id = H.length
    · subst he
      obtain rfl := Option.some.inj (new _ hb)
      exact hf hfl v hv
    · exact h.flat id b1 (old id _ hb he) hfl v hv
  · intro id b1 hb
    by_cases he : id = H.length
    · subst he; exact .inl ⟨_, updn⟩
    · exact (h.tot id b1 (old id _ hb he)).imp (fun ⟨L, hL⟩ => ⟨L, hext _ _ hL⟩) (fun q => q)

theorem addr_add (b o j : Nat) : (⟨b, o, none⟩ : Addr).add j = ⟨b, o + j, none⟩ := by unfold Addr.add; split <;> simp_all

theorem HRel.load (h : HRel w0 ι H w) {id o n : Nat} {vs : List Value} (hl : loadA H id o n = some vs) {L : Loc} (hi : ι id = some L) :
    ∃ vs' : List Value, (loadCells ⟨L.blk, L.off + o, none⟩ n).run P w = .ok vs'.toArray w ∧ LRel ι vs vs' := by
  unfold loadA at hl
  split at hl
  · rename_i b hb
    split at hl
    · rename_i hn
      obtain rfl := Option.some.inj hl
      obtain ⟨c, e, fr, hc, ha, hb1, hs, hcell, hw⟩ := h.blk id L b hi (getB_eq.1 hb)
      have hlen : ((b.cells.drop o).take n).length = n := by simp; omega
      -- the cells that are there
      have key : ∀ (j : Nat), j < n → ∃ v v', ((b.cells.drop o).take n)[j]? = some v ∧ c[L.off + (o + j)]? = some v' ∧ VRel ι v v' := fun j hj => by
        have hlt : o + j < b.cells.length := by omega
        obtain ⟨v', h1, h2⟩ := hcell (o + j) b.cells[o + j] (by simp [hlt])
        exact ⟨_, v', by simp [List.getElem?_take, List.getElem?_drop, hj, hlt], h1, h2⟩
      refine ⟨(List.range n).map fun j => (c[L.off + (o + j)]?).getD undef, ?_, ?_, ?_⟩
      · have hq := run_loadCells (P := P) w ⟨L.blk, L.off + o, none⟩ n (fun j => (c[L.off + (o + j)]?).getD undef) (fun j hj => by
          obtain ⟨v, v', _, h1, _⟩ := key j hj
          rw [addr_add, cell_of_row w L.blk _ c e fr hc, show L.off + o + j = L.off + (o + j) by omega, h1]; rfl)
        exact hq
      · simp; omega
      · intro j v v' h1 h2
        have hj : j < n := by have := (List.getElem?_eq_some_iff.1 h1).1; omega
        obtain ⟨u, u', k1, k2, k3⟩ := key j hj
        rw [k1] at h1; obtain rfl := Option.some.inj h1
        simp [hj, k2] at h2
        rw [← h2]; exact k3
    · simp at hl
  · simp at hl

theorem oneCell_rel {v v' : Value} (h : VRel ι v v') : v'.oneCell' = v.oneCell' := by cases h <;> rfl

theorem HRel.store (h : HRel w0 ι H w) {B id o : Nat} {vs vs' : List Value} {H' : Heap} (hs : storeA B H id o vs = some H') {L : Loc} (hi : ι id = some L) (hr : LRel ι vs vs') :
    ∃ w', (storeCells ⟨L.blk, L.off + o, none⟩ vs' 0).run P w = .ok () w' ∧ HRel w0 ι H' w' ∧ OCs B H H' ∧ H'.length = H.length := by
  unfold storeA at hs
  split at hs
  · rename_i b hb
    split at hs
    · rename_i hc0
      obtain ⟨hwr, hlen, hone, hfl⟩ := hc0
      obtain rfl := Option.some.inj hs
      have hb0 := getB_eq.1 hb
      have hid : id < H.length := getB_lt hb
      obtain ⟨c, e, fr, hc, ha, hb1, hsz, hcell, hw⟩ := h.blk id L b hi hb0
      obtain ⟨hold, rfl⟩ := hw hwr
      have hl2 : vs'.length = vs.length := hr.1.symm
      have hone' : ∀ v ∈ vs', v.oneCell' = true := fun v hv => by
        obtain ⟨i, hi2⟩ := List.mem_iff_getElem?.1 hv
        have hlt : i < vs.length := by have := (List.getElem?_eq_some_iff.1 hi2).1; omega
        have := hr.2 i vs[i] v (by simp [hlt]) hi2
        rw [oneCell_rel this]
        exact (List.all_eq_true.1 hone) _ (List.getElem_mem hlt)
      have hst := run_storeCells_at P L.blk (L.off + o) e vs' 0 c w hc (by omega) hone'
      refine ⟨_, hst, ?_, ?_, by simp⟩
      · have hnew : (w.setRow L.blk (c.toList.take (L.off + o + 0) ++ vs' ++ c.toList.drop (L.off + o + 0 + vs'.length)).toArray).heap[L.blk]? = some (.cells (c.toList.take (L.off + o + 0) ++ vs' ++ c.toList.drop (L.off + o + 0 + vs'.length)).toArray e (0, 0)) := setRow_heap w L.blk c _ e (0, 0) hc
        have hoth : ∀ k, k ≠ L.blk → (w.setRow L.blk (c.toList.take (L.off + o + 0) ++ vs' ++ c.toList.drop (L.off + o + 0 + vs'.length)).toArray).heap[k]? = w.heap[k]? := fun k hk => setRow_other w L.blk k _ hk
        have hsame : ∀ (j : Nat) (x : Option Blk), j ≠ id → (H.set id (some { b with cells := splice b.cells o vs }))[j]? = some x → H[j]? = some x := fun j x hj hx => by
          rw [List.getElem?_set] at hx; rw [if_neg (Ne.symm hj)] at hx; exact hx
        have hat : ∀ (x : Option Blk), (H.set id (some { b with cells := splice b.cells o vs }))[id]? = some x → x = some { b with cells := splice b.cells o vs } := fun x hx => by
          rw [List.getElem?_set] at hx; simp [hid] at hx; exact hx.symm
        refine ⟨?_, ?_, ?_, ?_, ?_, ?_⟩
        · refine h.below.trans ⟨rfl, rfl, rfl, by simp, fun k hk => hoth k (by omega)⟩
        · intro j M hj; simpa using h.dom j M hj
        · intro j M b1 hj hbj
          by_cases he : j = id
          · subst he
            rw [hi] at hj; obtain rfl := Option.some.inj hj
            obtain rfl := Option.some.inj (hat _ hbj)
            refine ⟨_, e, (0, 0), hnew, ?_, ?_, hsz, ?_, fun _ => ⟨hold, rfl⟩⟩
            · simp; omega
            · rw [splice_length hlen]; exact hb1
            · intro k v hv
              simp only [splice] at hv
              have hcs : c.size = c.toList.length := rfl
              by_cases hk1 : k < o
              · rw [List.getElem?_append_left (by simp; omega), List.getElem?_append_left (by simp; omega), List.getElem?_take, if_pos hk1] at hv
                obtain ⟨v', g1, g2⟩ := hcell k v hv
                refine ⟨v', ?_, g2⟩
                rw [List.getElem?_toArray, List.getElem?_append_left (by simp; omega), List.getElem?_append_left (by simp; omega), List.getElem?_take, if_pos (by omega)]
                simpa using g1
              · by_cases hk2 : k < o + vs.length
                · rw [List.getElem?_append_left (by simp; omega), List.getElem?_append_right (by simp; omega)] at hv
                  simp only [List.length_take] at hv
                  rw [show min o b.cells.length = o by omega] at hv
                  obtain ⟨v', g1, g2⟩ := hr.get hv
                  refine ⟨v', ?_, g2⟩
                  rw [List.getElem?_toArray, List.getElem?_append_left (by simp; omega), List.getElem?_append_right (by simp; omega)]
                  simp only [List.length_take, ← hcs]
                  rw [show L.off + k - min (L.off + o + 0) c.size = k - o by omega]
                  exact g1
                · rw [List.getElem?_append_right (by simp; omega)] at hv
                  simp only [List.length_append, List.length_take] at hv
                  rw [List.getElem?_drop, show o + vs.length + (k - (min o b.cells.length + vs.length)) = k by omega] at hv
                  obtain ⟨v', g1, g2⟩ := hcell k v hv
                  refine ⟨v', ?_, g2⟩
                  rw [List.getElem?_toArray, List.getElem?_append_right (by simp; omega)]
                  simp only [List.length_append, List.length_take, ← hcs]
                  rw [List.getElem?_drop, show L.off + o + 0 + vs'.length + (L.off + k - (min (L.off + o + 0) c.size + vs'.length)) = L.off + k by omega]
                  simpa using g1
          · have hbj' := hsame j _ he hbj
            obtain ⟨c1, e1, fr1, hc1, ha1, hb2, hs1, hcell1, hw1⟩ := h.blk j M b1 hj hbj'
            refine ⟨c1, e1, fr1, ?_, ha1, hb2, hs1, hcell1, hw1⟩
            rw [hoth _ ?_]; exact hc1
            exact (h.sep id j L M b b1 hi hj (Ne.symm he) hb0 hwr hbj').symm
        · intro i j M1 M2 b1 b2 hi1 hj1 hne h1 hw1 h2
          have g1 : ∃ b1', H[i]? = some (some b1') ∧ b1'.wr = true := by
            by_cases he : i = id
            · subst he; exact ⟨b, hb0, hwr⟩
            · exact ⟨b1, hsame i _ he h1, hw1⟩
          have g2 : ∃ b2', H[j]? = some (some b2') := by
            by_cases he : j = id
            · subst he; exact ⟨b, hb0⟩
            · exact ⟨b2, hsame j _ he h2⟩
          obtain ⟨b1', x1, x2⟩ := g1
          obtain ⟨b2', x3⟩ := g2
          exact h.sep i j M1 M2 b1' b2' hi1 hj1 hne x1 x2 x3
        · intro j b1 hbj hf v hv
          by_cases he : j = id
          · subst he
            obtain rfl := Option.some.inj (hat _ hbj)
            simp only [splice, List.mem_append] at hv
            rcases hv with (hv | hv) | hv
            · exact h.flat j b hb0 hf v (List.mem_of_mem_take hv)
            · exact (List.all_eq_true.1 (hfl (.inl hf))) v hv
            · exact h.flat j b hb0 hf v (List.mem_of_mem_drop hv)
          · exact h.flat j b1 (hsame j _ he hbj) hf v hv
        · intro j b1 hbj
          by_cases he : j = id
          · subst he; exact .inl ⟨L, hi⟩
          · exact h.tot j b1 (hsame j _ he hbj)
      · intro B' hB' ho j b1 v hj hbj hv
        by_cases he : j = id
        · subst he
          rw [List.getElem?_set] at hbj; simp [hid] at hbj; subst hbj
          simp only [splice, List.mem_append] at hv
          rcases hv with (hv | hv) | hv
          · exact ho j b v hj hb0 (List.mem_of_mem_take hv)
          · exact Lt.flat ((List.all_eq_true.1 (hfl (.inr (by omega)))) v hv)
          · exact ho j b v hj hb0 (List.mem_of_mem_drop hv)
        · rw [List.getElem?_set, if_neg (Ne.symm he)] at hbj
          exact ho j b1 v hj hbj hv
    · simp at hs
  · simp at hs

/-- A row that grows where it stands: its old name is gone. -/
theorem HRel.regrow (h : HRel w0 ι H w) {id o : Nat} {L : Loc} {b b' : Blk} {c' : Array Value} {w' : World} (hi : ι id = some L) (hb : H[id]? = some (some b)) (hwr : b.wr = true)
    (ho : o ≤ L.avail) (hsz : b'.sz = L.sz) (hlen : b'.cells.length ≤ L.avail - o) (hf : b'.fl = true → ∀ v ∈ b'.cells, flatV v = true)
    (hw : ∃ c e, w.heap[L.blk]? = some (.cells c e (0, 0)) ∧ w' = w.setRow L.blk c' ∧ c'.size = c.size)
    (hcell : ∀ (j : Nat) (v : Value), b'.cells[j]? = some v → ∃ v', c'[L.off + o + j]? = some v' ∧ VRel ι v v') :
    HRel w0 (upd ι H.length ⟨L.blk, L.off + o, L.avail - o, L.sz⟩) (H.set id none ++ [some b']) w' := by
  obtain ⟨c, e, hc, rfl, hcs⟩ := hw
  have hid : id < H.length := (List.getElem?_eq_some_iff.1 hb).1
  have hext := h.updExt ⟨L.blk, L.off + o, L.avail - o, L.sz⟩
  obtain ⟨c0, e0, fr0, hc0, ha, hb1, hsz0, _, hwo⟩ := h.blk id L b hi hb
  obtain ⟨hold, _⟩ := hwo hwr
  rw [hc] at hc0; injection hc0 with hc0; injection hc0 with q1 q2 q3; subst q1; subst q2
  have old : ∀ (j : Nat) (b1 : Blk), (H.set id none ++ [some b'])[j]? = some (some b1) → j ≠ H.length → j ≠ id ∧ H[j]? = some (some b1) := fun j b1 hx hne => by
    have hx := app_old hx (by simpa using hne)
    rw [List.getElem?_set] at hx
    by_cases e : id = j
    · subst e; simp [hid] at hx
    · rw [if_neg e] at hx; exact ⟨fun q => e q.symm, hx⟩
  have new : ∀ (x : Option Blk), (H.set id none ++ [some b'])[H.length]? = some x → x = some b' := fun x hx => by
    rw [List.getElem?_append_right (by simp)] at hx; simpa using hx.symm
  have updo : ∀ j, j ≠ H.length → upd ι H.length ⟨L.blk, L.off + o, L.avail - o, L.sz⟩ j = ι j := fun j hne => by simp [upd, hne]
  have updn : upd ι H.length ⟨L.blk, L.off + o, L.avail - o, L.sz⟩ H.length = some ⟨L.blk, L.off + o, L.avail - o, L.sz⟩ := by simp [upd]
  have hnew : (w.setRow L.blk c').heap[L.blk]? = some (.cells c' e (0, 0)) := setRow_heap w L.blk c c' e (0, 0) hc
  have hoth : ∀ k, k ≠ L.blk → (w.setRow L.blk c').heap[k]? = w.heap[k]? := fun k hk => setRow_other w L.blk k c' hk
  refine ⟨h.below.trans ⟨rfl, rfl, rfl, by simp, fun k hk => hoth k (by omega)⟩, ?_, ?_, ?_, ?_, ?_⟩
  · intro j M hj
    by_cases he : j = H.length
    · subst he; simp
    · rw [updo j he] at hj; have := h.dom j M hj; simp; omega
  · intro j M b1 hj hbj
    by_cases he : j = H.length
    · subst he
      rw [updn] at hj; obtain rfl := Option.some.inj hj
      obtain rfl := Option.some.inj (new _ hbj)
      refine ⟨c', e, (0, 0), hnew, by simp; omega, hlen, hsz.symm, ?_, fun _ => ⟨hold, rfl⟩⟩
      intro k v hv
      obtain ⟨v', g1, g2⟩ := hcell k v hv
      exact ⟨v', g1, g2.mono hext⟩
    · obtain ⟨hne, hbj'⟩ := old j b1 hbj he
      rw [updo j he] at hj
      obtain ⟨c1, e1, fr1, hc1, ha1, hb2, hs1, hcell1, hw1⟩ := h.blk j M b1 hj hbj'
      refine ⟨c1, e1, fr1, ?_, ha1, hb2, hs1, fun k v hv => ?_, hw1⟩
      · rw [hoth _ (h.sep id j L M b b1 hi hj (Ne.symm hne) hb hwr hbj').symm]; exact hc1
      · obtain ⟨v', g1, g2⟩ := hcell1 k v hv; exact ⟨v', g1, g2.mono hext⟩
  · intro i j M1 M2 b1 b2 hi1 hj1 hne h1 hw1 h2
    by_cases hi0 : i = H.length
    · subst hi0
      have hj0 : j ≠ H.length := fun e => hne e.symm
      rw [updn] at hi1; obtain rfl := Option.some.inj hi1
      rw [updo j hj0] at hj1
      obtain ⟨hne2, h2'⟩ := old j b2 h2 hj0
      exact h.sep id j L M2 b b2 hi hj1 (Ne.symm hne2) hb hwr h2'
    · obtain ⟨hne1, h1'⟩ := old i b1 h1 hi0
      rw [updo i hi0] at hi1
      by_cases hj0 : j = H.length
      · subst hj0
        rw [updn] at hj1; obtain rfl := Option.some.inj hj1
        exact (h.sep id i L M1 b b1 hi hi1 (Ne.symm hne1) hb hwr h1').symm
      · obtain ⟨hne2, h2'⟩ := old j b2 h2 hj0
        rw [updo j hj0] at hj1
        exact h.sep i j M1 M2 b1 b2 hi1 hj1 hne h1' hw1 h2'
  · intro j b1 hbj hfl v hv
    by_cases he : j = H.length
    · subst he; obtain rfl := Option.some.inj (new _ hbj); exact hf hfl v hv
    · obtain ⟨hne, hbj'⟩ := old j b1 hbj he
      exact h.flat j b1 hbj' hfl v hv
  · intro j b1 hbj
    by_cases he : j = H.length
    · subst he; exact .inl ⟨_, updn⟩
    · obtain ⟨hne, hbj'⟩ := old j b1 hbj he
      exact (h.tot j b1 hbj').imp (fun ⟨L, hL⟩ => ⟨L, hext _ _ hL⟩) (fun q => q)

theorem OCs.push (B : Nat) (H : Heap) (x : Option Blk) (hB : B ≤ H.length) : OCs B H (H ++ [x]) := by
  intro B' hB' ho j b v hj hb hv
  rw [List.getElem?_append_left (by omega)] at hb
  exact ho j b v hj hb hv
theorem OCs.kill (B : Nat) (H : Heap) (id : Nat) : OCs B H (H.set id none) := by
  intro B' hB' ho j b v hj hb hv
  rw [List.getElem?_set] at hb
  split at hb
  · split at hb <;> simp at hb
  · exact ho j b v hj hb hv
theorem HRel.oc (h : HRel w0 ι H w) : OC H.length H := by
  intro j b v hj hb hv
  rcases h.tot j b hb with ⟨L, hL⟩ | hq
  rotate_left
  · exact Lt.flat (hq v hv)
  obtain ⟨c, e, fr, hc, _, _, _, hcell, _⟩ := h.blk j L b hL hb
  obtain ⟨i, hi⟩ := List.mem_iff_getElem?.1 hv
  obtain ⟨v', _, hr⟩ := hcell i v hi
  exact Lt.of hr h.dom
end
end Go.Proofs.Ytbmejhabgoimeaa.Eng
set_option linter.unusedVariables false
set_option linter.unusedSimpArgs false
namespace Go.Proofs.Ytbmejhabgoimeaa.Eng
open Go Go.RowKit

/-- What is known of a type. -/
structure TyD where
  und : TypeDesc
  size : Nat
  bytes : Nat
  zero : List Value
  fl : Bool
abbrev Ty := Nat → Option TyD
def aggD : TypeDesc → Bool | .struct _ | .array _ _ => true | _ => false
structure TyOk1 (P : Program) (t : Nat) (d : TyD) : Prop where
  und : P.underlying t = some d.und
  info : ∃ i v, P.info? t = some i ∧ i.size = d.size ∧ i.bytes = d.bytes ∧ i.zero = some v ∧ v.cells.toList = d.zero
  zlen : d.zero.length = d.size
  zflat : d.zero.all flatV = true
def TyOk (P : Program) (T : Ty) : Prop := ∀ t d, T t = some d → TyOk1 P t d

def cellsL : Value → List Value | .agg cs => cs.toList | v => [v]
theorem cellsL_eq (v : Value) : cellsL v = v.cells.toList := by cases v <;> rfl
theorem cells_rel {ι : Ren} {v v' : Value} (h : VRel ι v v') : LRel ι (cellsL v) (cellsL v') := by
  cases h <;> first | exact .cons (by constructor <;> assumption) (.nil ι) | skip
  case agg xs ys hl h => exact ⟨hl, h⟩

/-! ### operands -/
def ev (t : List Value) : Operand → Option Value
  | .tmp i => t[i]?
  | .const v => if flatV v = true then some v else none
  | .func f => some (.func (.func f) #[] #[])
  | .global _ => none
def evL (t : List Value) (x : Operand) : Option Value := match ev t x with | some v => if isDead v = true then none else some v | none => none
def TS (ι : Ren) (t : List Value) (tm : Array Value) : Prop := t.length = tm.size ∧ ∀ (i : Nat) (v v' : Value), t[i]? = some v → tm[i]? = some v' → TRel ι v v'
theorem TS.mono {ι ι' : Ren} (hm : ∀ id L, ι id = some L → ι' id = some L) {t : List Value} {tm : Array Value} (h : TS ι t tm) : TS ι' t tm := ⟨h.1, fun i v v' a b => (h.2 i v v' a b).mono hm⟩
theorem TS.put {ι : Ren} {t : List Value} {a : Act} (h : TS ι t a.tmps) (d : Option Tmp) {v v' : Value} (hv : TRel ι v v') : TS ι (match d with | some i => t.set i v | none => t) (a.put d v').tmps := by
  cases d with
  | none => exact h
  | some i =>
    refine ⟨by simp [Act.put, h.1], fun j u u' h1 h2 => ?_⟩
    simp only [Act.put, Array.getElem?_setIfInBounds] at h2
    rw [List.getElem?_set] at h1
    by_cases e : i = j
    · subst e; simp only [if_true] at h1 h2
      split at h1 <;> split at h2 <;> simp_all
    · simp only [e, if_false] at h1 h2; exact h.2 j u u' h1 h2
theorem ev_rel {ι : Ren} {t : List Value} {a : Act} (h : TS ι t a.tmps) {x : Operand} {v : Value} (hv : ev t x = some v) : TRel ι v (a.eval x) := by
  cases x with
  | tmp i =>
    simp only [ev] at hv
    have hlt : i < a.tmps.size := by
      have h1 : i < t.length := (List.getElem?_eq_some_iff.1 hv).1
      have h2 : t.length = a.tmps.size := h.1
      exact Nat.lt_of_lt_of_eq h1 h2
    have := h.2 i v a.tmps[i] hv (by simp [hlt])
    simp only [Act.eval, Array.getD_eq_getD_getElem?, Array.getElem?_eq_getElem hlt, Option.getD_some]; exact this
  | const c => simp only [ev] at hv; split at hv <;> simp at hv; subst hv; exact .inr (.flat (by assumption))
  | func f => simp only [ev] at hv; obtain rfl := Option.some.inj hv; exact .inr (.func f [] [] rfl (fun i v v' h => by simp at h))
  | global g => simp [ev] at hv
theorem evL_rel {ι : Ren} {t : List Value} {a : Act} (h : TS ι t a.tmps) {x : Operand} {v : Value} (hv : evL t x = some v) : VRel ι v (a.eval x) := by
  unfold evL at hv
  split at hv
  · rename_i u hu
    split at hv
    · simp at hv
    · rename_i hd; obtain rfl := Option.some.inj hv
      exact (ev_rel h hu).live (by simpa using hd)
  · simp at hv

/-! ### what a step gives -/
def StepOk (w0 : World) (ι : Ren) (B : Nat) (H : Heap) (r : Result Next) (v : Value) (H' : Heap) : Prop :=
  ∃ nx v' w' ι', r = .ok nx w' ∧ (nx = .value v' ∨ (nx = .skip ∧ v' = undef)) ∧ HRel w0 ι' H' w' ∧ TRel ι' v v' ∧ Ext H.length ι ι' ∧ OCs B H H' ∧ H.length ≤ H'.length
theorem StepOk.pure {w0 w : World} {ι : Ren} {B : Nat} {H : Heap} (hH : HRel w0 ι H w) {r : Result Next} {v v' : Value} (h : r = .ok (.value v') w) (hv : TRel ι v v') : StepOk w0 ι B H r v H :=
  ⟨_, v', w, ι, h, .inl rfl, hH, hv, .refl _ _, .refl _ _, Nat.le_refl _⟩

section
variable {P : Program} {T : Ty} {w : World}
theorem TyOk.sizeOf (hT : TyOk P T) {t : Nat} {d : TyD} (h : T t = some d) : (sizeOf t).run P w = .ok d.size w := by
  obtain ⟨i, v, h1, h2, _⟩ := (hT t d h).info
  simp [Go.sizeOf, typeInfo, h1, h2]
theorem TyOk.underlying (hT : TyOk P T) {t : Nat} {d : TyD} (h : T t = some d) : (underlying t).run P w = .ok d.und w := run_underlying (hT t d h).und w
theorem TyOk.zeroValue (hT : TyOk P T) {t : Nat} {d : TyD} (h : T t = some d) : ∃ v, (zeroValue t).run P w = .ok v w ∧ v.cells.toList = d.zero := by
  obtain ⟨i, v, h1, h2, h3, h4, h5⟩ := (hT t d h).info
  exact ⟨v, by simp [Go.zeroValue, typeInfo, h1, h4], h5⟩
theorem TyOk.isAgg (hT : TyOk P T) {t : Nat} {d : TyD} (h : T t = some d) : (isAgg t).run P w = .ok (aggD d.und) w := by
  unfold Go.isAgg
  rw [Sem.run_bind, hT.underlying h]
  cases d.und <;> rfl
theorem TyOk.bytes (hT : TyOk P T) {t : Nat} {d : TyD} (h : T t = some d) : ∃ i, (typeInfo t).run P w = .ok i w ∧ i.bytes = d.bytes ∧ i.size = d.size := by
  obtain ⟨i, v, h1, h2, h3, _⟩ := (hT t d h).info
  exact ⟨i, by simp [typeInfo, h1], h3, h2⟩
end

/-! ### parts of a struct -/
def fillL (place : Nat → Option (Nat × Nat)) (cells : List Value) : List (Nat × Value) → Option (List Value)
  | [] => some cells
  | (i, v) :: rest =>
    match place i with
    | none => none
    | some (off, size) => if (cellsL v).length ≠ size ∨ off + (cellsL v).length > cells.length then none else fillL place (splice cells off (cellsL v)) rest
theorem foldl_set (vs : List Value) : ∀ (cells : Array Value) (off k : Nat), off + k + vs.length ≤ cells.size →
    ((vs.zipIdx k).foldl (fun (cs : Array Value) (p : Value × Nat) => cs.setIfInBounds (off + p.2) p.1) cells).toList = splice cells.toList (off + k) vs := by
  induction vs with
  | nil => intro cells off k h; simp [splice]
  | cons v vs ih =>
    intro cells off k h
    simp only [List.zipIdx_cons, List.foldl_cons, List.length_cons] at h ⊢
    rw [show k + 1 = 1 + k by omega] at *
    rw [ih _ off (1 + k) (by simp; omega)]
    simp only [splice, Array.toList_setIfInBounds, List.length_cons]
    apply List.ext_getElem?
    intro j
    simp only [List.getElem?_append, List.getElem?_take, List.getElem?_drop, List.getElem?_set, List.length_append, List.length_take, List.length_set, Array.length_toList, List.getElem?_cons]
    by_cases h1 : j < off + k
    · simp [h1, show j < off + (1 + k) by omega, show j < min (off + k) cells.size by omega, show j < min (off + (1 + k)) cells.size by omega, show j < min (off + (1 + k)) cells.size + vs.length by omega, show j < min (off + k) cells.size + (vs.length + 1) by omega, show ¬ off + k = j by omega]
    · by_cases h2 : j = off + k
      · subst h2
        simp [show min (off + k) cells.size = off + k by omega, show min (off + (1 + k)) cells.size = off + k + 1 by omega, show off + k < cells.size by omega, show off + k < off + (1 + k) by omega, show off + k < off + k + 1 + vs.length by omega]
      · by_cases h3 : j < off + k + 1 + vs.length
        · simp only [show min (off + k) cells.size = off + k by omega, show min (off + (1 + k)) cells.size = off + k + 1 by omega]
          simp [h1, show ¬ j < off + k + 1 by omega, show j < off + k + 1 + vs.length by omega, show j < off + k + (vs.length + 1) by omega, show ¬ j - (off + k) = 0 by omega, show j - (off + k) - 1 = j - (off + k + 1) by omega]
        · simp only [show min (off + k) cells.size = off + k by omega, show min (off + (1 + k)) cells.size = off + k + 1 by omega]
          simp [show ¬ j < off + k + 1 + vs.length by omega, show ¬ j < off + k + (vs.length + 1) by omega, show off + k + (vs.length + 1) + (j - (off + k + (vs.length + 1))) = j by omega, show off + (1 + k) + vs.length + (j - (off + k + 1 + vs.length)) = j by omega, show ¬ off + k = j by omega]
theorem fill_eq (place : Nat → Option (Nat × Nat)) : ∀ (parts : List (Nat × Value)) (cells : Array Value), Instr.fill place cells parts = (fillL place cells.toList parts).map List.toArray
  | [], cells => by simp [Instr.fill, fillL]
  | (i, v) :: rest, cells => by
    simp only [Instr.fill, fillL]
    cases hp : place i with
    | none => rfl
    | some q =>
      obtain ⟨off, size⟩ := q
      simp only [cellsL_eq, Array.length_toList]
      by_cases hc : v.cells.size ≠ size ∨ off + v.cells.size > cells.size
      · have : (v.cells.size ≠ size || off + v.cells.size > cells.size) = true := by simpa using hc
        simp [this, hc]
      · have : (v.cells.size ≠ size || off + v.cells.size > cells.size) = false := by simpa using hc
        rw [if_neg hc]
        simp only [this, Bool.false_eq_true, if_false]
        rw [fill_eq place rest]
        have e := foldl_set v.cells.toList cells off 0 (by simp at hc ⊢; omega)
        congr 2
        rw [← Array.foldl_toList, Array.toList_zipIdx]
        simpa using e
theorem LRel.splice {ι : Ren} {xs ys us vs : List Value} (h : LRel ι xs ys) (k : LRel ι us vs) (o : Nat) : LRel ι (Eng.splice xs o us) (Eng.splice ys o vs) := by
  unfold Eng.splice
  rw [k.1]
  exact ((h.take o).append k).append (h.drop _)
theorem fillL_rel {ι : Ren} (place : Nat → Option (Nat × Nat)) : ∀ (parts parts' : List (Nat × Value)) (cs cs' r : List Value), LRel ι cs cs' → parts.length = parts'.length →
    (∀ (j : Nat) p p', parts[j]? = some p → parts'[j]? = some p' → p.1 = p'.1 ∧ VRel ι p.2 p'.2) → fillL place cs parts = some r → ∃ r', fillL place cs' parts' = some r' ∧ LRel ι r r'
  | [], parts', cs, cs', r, hc, hl, _, h => by
    cases parts' with
    | nil => simp only [fillL, Option.some.injEq] at h ⊢; subst h; exact ⟨cs', rfl, hc⟩
    | cons _ _ => simp at hl
  | (i, v) :: rest, parts', cs, cs', r, hc, hl, hp, h => by
    cases parts' with
    | nil => simp at hl
    | cons p' rest' =>
      obtain ⟨i', v'⟩ := p'
      obtain ⟨e1, e2⟩ := hp 0 (i, v) (i', v') (by simp) (by simp)
      simp only at e1 e2; subst e1
      simp only [fillL] at h ⊢
      have hcl := (cells_rel e2).1
      cases hpl : place i with
      | none => simp [hpl] at h
      | some q =>
        obtain ⟨off, size⟩ := q
        simp only [hpl] at h ⊢
        rw [← hcl, ← hc.1]
        split at h
        · simp at h
        · rename_i hcond
          rw [if_neg hcond]
          exact fillL_rel place rest rest' _ _ r (hc.splice (cells_rel e2) off) (by simpa using hl) (fun j p p' h1 h2 => hp (j + 1) p p' (by simpa using h1) (by simpa using h2)) h
def offsL (T : Ty) : List Field → Option (List (Nat × Nat))
  | [] => some []
  | f :: r => match T f.type, offsL T r with | some d, some l => some ((f.offset, d.size) :: l) | _, _ => none
end Go.Proofs.Ytbmejhabgoimeaa.Eng
set_option linter.unusedVariables false
set_option linter.unusedSimpArgs false
namespace Go.Proofs.Ytbmejhabgoimeaa.Eng
open Go Go.RowKit

/-! ### operators -/
def intA (op : BinOp) (k : IntKind) (a b : Int) : Option Value :=
  match op with
  | .add => some (.int k (k.wrap (a + b)))
  | .sub => some (.int k (k.wrap (a - b)))
  | .mul => some (.int k (k.wrap (a * b)))
  | .quo => if b = 0 then none else some (.int k (k.wrap (a.tdiv b)))
  | .rem => if b = 0 then none else some (.int k (a.tmod b))
  | .eql => some (.bool (decide (a = b)))
  | .neq => some (.bool (decide (a ≠ b)))
  | .lss => some (.bool (decide (a < b)))
  | .leq => some (.bool (decide (a ≤ b)))
  | .gtr => some (.bool (decide (b < a)))
  | .geq => some (.bool (decide (b ≤ a)))
  | _ => none
def shiftA (op : BinOp) (k : IntKind) (a b : Int) : Option Value :=
  if b < 0 then none else
  match op with
  | .shl => some (.int k (k.wrap (a * 2 ^ (min b.toNat k.bits))))
  | .shr => some (.int k (a.fdiv (2 ^ (min b.toNat k.bits))))
  | _ => none
def strA (op : BinOp) (a b : ByteArray) : Option Value :=
  match op with
  | .add => if a.size + b.size ≤ 9223372036854775807 then some (.string (a ++ b)) else none
  | .eql => some (.bool (decide (a = b)))
  | .neq => some (.bool (decide (a ≠ b)))
  | .lss => some (.bool (Op.bytesLess a.toList b.toList))
  | _ => none
def partL (T : Ty) (t : Nat) (cs : List Value) (off : Nat) : Option Value :=
  match T t with
  | some d => if aggD d.und = true then (if off + d.size ≤ cs.length then some (.agg ⟨(cs.drop off).take d.size⟩) else none) else cs[off]?
  | none => none
def eqFieldsA (T : Ty) (e : Nat → Value → Value → Option Bool) : List Field → List Value → List Value → Option Bool
  | [], _, _ => some true
  | f :: r, xs, ys => if f.name = "_" then none else
    match partL T f.type xs f.offset, partL T f.type ys f.offset with
    | some a, some b => match e f.type a b, eqFieldsA T e r xs ys with
      | some p, some q => some (p && q)
      | _, _ => none
    | _, _ => none
def eqA (T : Ty) (eqOk : Nat → Bool) : Nat → Nat → Value → Value → Option Bool
  | 0, _, _, _ => none
  | n + 1, t, x, y =>
    match T t with
    | none => none
    | some d => match d.und, x, y with
      | .bool, .bool a, .bool b => some (a == b)
      | .int _, .int k a, .int k' b => if k = k' then some (decide (a = b)) else none
      | .string, .string a, .string b => some (decide (a = b))
      | .struct fs, .agg xs, .agg ys => if eqOk t = true then eqFieldsA T (eqA T eqOk n) fs.toList xs.toList ys.toList else none
      | _, _, _ => none
def EqOk (P : Program) (eqOk : Nat → Bool) : Prop := ∀ t, eqOk t = true → P.stoodInHeld t = false ∧ P.eqGuardType P.depth t = false
def eqNil : Value → Value → Option Bool
  | .slice a _ _, .slice none _ _ => some a.isNone
  | .slice none _ _, .slice b _ _ => some b.isNone
  | .pointer a, .pointer none => some a.isNone
  | .nilIface, .nilIface => some true
  | _, _ => none
def binA (T : Ty) (eqOk : Nat → Bool) (op : BinOp) (t : Nat) (x y : Value) : Option Value :=
  match op, x, y with
  | .shl, .int k a, .int _ b => shiftA .shl k a b
  | .shr, .int k a, .int _ b => shiftA .shr k a b
  | op, .int k a, .int k' b => if k = k' then intA op k a b else none
  | op, .string a, .string b => strA op a b
  | .eql, .bool a, .bool b => match T t with | some d => (match d.und with | .bool => some (.bool (a == b)) | _ => none) | none => none
  | .neq, .bool a, .bool b => match T t with | some d => (match d.und with | .bool => some (.bool (!(a == b))) | _ => none) | none => none
  | .eql, .agg xs, .agg ys => (eqA T eqOk 9 t (.agg xs) (.agg ys)).map .bool
  | .neq, .agg xs, .agg ys => (eqA T eqOk 9 t (.agg xs) (.agg ys)).map (fun b => .bool (!b))
  | _, _, _ => none
def unA (op : UnOp) (x : Value) : Option Value :=
  match op, x with
  | .neg, .int k n => some (.int k (k.wrap (0 - n)))
  | .not, .bool b => some (.bool (!b))
  | _, _ => none

section
variable {P : Program} {T : Ty} {w : World}
theorem decide_beq (a b : ByteArray) : (a.toList == b.toList) = decide (a = b) := by
  rw [ByteArray.toList_eq, ByteArray.toList_eq]
  obtain ⟨⟨x⟩⟩ := a
  obtain ⟨⟨y⟩⟩ := b
  by_cases h : x = y
  · subst h; simp
  · have : ¬ (ByteArray.mk ⟨x⟩ = ByteArray.mk ⟨y⟩) := fun e => h (by injection e with e; injection e)
    simp [h, this]
theorem extract_list (xs : Array Value) (i n : Nat) : xs.extract i (i + n) = ⟨(xs.toList.drop i).take n⟩ := by
  apply Array.ext'
  rw [Array.toList_extract]
  simp [List.extract]
theorem part_run (hT : TyOk P T) {t off : Nat} {cs : List Value} {v : Value} (h : partL T t cs off = some v) : (part t ⟨cs⟩ off).run P w = .ok v w := by
  unfold partL at h
  split at h
  · rename_i d hd
    unfold part
    rw [Sem.run_bind, hT.isAgg hd]
    simp only [Result.andThen_ok]
    split at h
    · rename_i ha
      simp only [ha, if_true]
      split at h
      · obtain rfl := Option.some.inj h
        simp [hT.sizeOf hd, extract_list]
      · simp at h
    · rename_i ha
      have ha' : aggD d.und = false := by simpa using ha
      simp only [ha', Bool.false_eq_true, if_false]
      simp [h]
  · simp at h
theorem eqFields_run (hT : TyOk P T) {e : Nat → Value → Value → Option Bool} {d : Nat} (he : ∀ t a b r, e t a b = some r → (Op.equalIn d t a b).run P w = .ok r w) :
    ∀ (fs : List Field) (xs ys : List Value) (r : Bool), eqFieldsA T e fs xs ys = some r → (Op.eqFields d ⟨xs⟩ ⟨ys⟩ fs).run P w = .ok r w
  | [], xs, ys, r, h => by simp [eqFieldsA] at h; subst h; simp [Op.eqFields]
  | f :: fs, xs, ys, r, h => by
    simp only [eqFieldsA] at h
    split at h
    · simp at h
    · rename_i hn
      split at h
      · rename_i a b ha hb
        split at h
        · rename_i p q hp hq
          obtain rfl := Option.some.inj h
          rw [Op.eqFields, if_pos hn]
          simp only [Sem.run_bind, part_run hT ha, part_run hT hb, Result.andThen_ok, he _ _ _ _ hp]
          cases p
          · simp
          · simpa using eqFields_run hT he fs xs ys q hq
        · simp at h
      · simp at h
theorem eqA_run (hT : TyOk P T) {eqOk : Nat → Bool} (hE : EqOk P eqOk) : ∀ (n d t : Nat) (x y : Value) (r : Bool), n ≤ d → eqA T eqOk n t x y = some r → (Op.equalIn d t x y).run P w = .ok r w
  | 0, _, _, _, _, _, _, h => by simp [eqA] at h
  | n + 1, d, t, x, y, r, hd, h => by
    obtain ⟨d, rfl⟩ : ∃ e, d = e + 1 := ⟨d - 1, by omega⟩
    simp only [eqA] at h
    split at h
    · simp at h
    · rename_i td htd
      have hu := (hT t td htd).und
      split at h
      · rename_i e1; rw [e1] at hu; obtain rfl := Option.some.inj h; exact run_equalIn_bool' w d t _ _ hu
      · rename_i k0 k a k' b e1; rw [e1] at hu
        split at h
        · rename_i hk; subst hk; obtain rfl := Option.some.inj h
          rw [run_equalIn_int w d t k k0 a b hu]; rfl
        · simp at h
      · rename_i e1; rw [e1] at hu; obtain rfl := Option.some.inj h
        rw [run_equalIn_string w d t _ _ hu, decide_beq]
      · rename_i fs xs ys e1; rw [e1] at hu
        split at h
        · rename_i hok
          have hf : P.fieldsOf t = fs := by simp [Program.fieldsOf, hu]
          rw [run_equalIn_struct (P := P) w d t xs ys (by rw [hf]; exact hu) (hE t hok).1, hf]
          exact eqFields_run hT (fun t a b r h => eqA_run hT hE n d t a b r (by omega) h) fs.toList xs.toList ys.toList r h
        · simp at h
      · simp at h

theorem eqA_ok {eqOk : Nat → Bool} {n t : Nat} {xs ys : Array Value} {r : Bool} (he : eqA T eqOk (n + 1) t (.agg xs) (.agg ys) = some r) : eqOk t = true := by
  simp only [eqA] at he
  cases hT : T t with
  | none => simp [hT] at he
  | some d =>
    simp only [hT] at he
    obtain ⟨und, s, b, z, f⟩ := d
    cases und <;> simp at he
    exact he.1

/-- An operator's answer, of the machine's own operands. -/
theorem binA_run (hT : TyOk P T) {eqOk : Nat → Bool} (hE : EqOk P eqOk) {op : BinOp} {t : Nat} {ox oy : Operand} {x y v : Value} (h : binA T eqOk op t x y = some v) :
    (do eqGuard op t ox oy x y; binOp op t x y : Sem Value).run P w = .ok v w ∧ flatV v = true := by
  unfold binA at h
  split at h
  · -- shl
    simp only [shiftA] at h
    split at h
    · simp at h
    · rename_i hb
      obtain rfl := Option.some.inj h
      simp [eqGuard, binOp, Op.shift, hb, flatV]
  · simp only [shiftA] at h
    split at h
    · simp at h
    · rename_i hb
      obtain rfl := Option.some.inj h
      simp [eqGuard, binOp, Op.shift, hb, flatV]
  · rename_i k a k' b n1 n2
    split at h
    · rename_i hk; subst hk
      unfold intA at h
      split at h <;> first | (simp at h; done) | skip
      all_goals (try (split at h <;> first | (simp at h; done) | skip))
      all_goals (obtain rfl := Option.some.inj h)
      all_goals (simp [eqGuard, binOp, Op.intArith, Op.intDiv, Op.intCmp, flatV, *])
      all_goals (first | rfl | (by_cases hab : a = b <;> simp [hab]) | skip)
    · simp at h
  · rename_i a b
    unfold strA at h
    split at h <;> first | (simp at h; done) | skip
    · split at h
      · rename_i hs
        obtain rfl := Option.some.inj h
        have hm : ¬ (IntKind.i64.max < ((a.size : Int) + (b.size : Int))) := by simp [IntKind.max, IntKind.signed, IntKind.bits]; omega
        simp [eqGuard, binOp, Op.stringOp, hm, flatV]
        omega
      · simp at h
    · obtain rfl := Option.some.inj h
      simp [eqGuard, binOp, Op.stringOp, decide_beq, flatV]
    · obtain rfl := Option.some.inj h
      simp [eqGuard, binOp, Op.stringOp, decide_beq, flatV]
    · obtain rfl := Option.some.inj h
      simp [eqGuard, binOp, Op.stringOp, flatV]
  · rename_i a b
    split at h
    · rename_i d hd
      split at h
      · rename_i e1
        obtain rfl := Option.some.inj h
        have hu := (hT t d hd).und; rw [e1] at hu
        simp [eqGuard, binOp, Op.equal, Op.maxDepth, run_equalIn_bool' w 9999 t a b hu, flatV]
      · simp at h
    · simp at h
  · rename_i a b
    split at h
    · rename_i d hd
      split at h
      · rename_i e1
        obtain rfl := Option.some.inj h
        have hu := (hT t d hd).und; rw [e1] at hu
        simp [eqGuard, binOp, Op.equal, Op.maxDepth, run_equalIn_bool' w 9999 t a b hu, flatV]
      · simp at h
    · simp at h
  · rename_i xs ys
    cases he : eqA T eqOk 9 t (.agg xs) (.agg ys) with
    | none => simp [he] at h
    | some r =>
      simp only [he, Option.map_some, Option.some.injEq] at h; subst h
      have hr := eqA_run (w := w) hT hE 9 10000 t _ _ r (by omega) he
      have hg : P.eqGuardType P.depth t = false := (hE t (eqA_ok he)).2
      simp [eqGuard, binOp, Op.equal, Op.maxDepth, hr, hg, flatV]
  · rename_i xs ys
    cases he : eqA T eqOk 9 t (.agg xs) (.agg ys) with
    | none => simp [he] at h
    | some r =>
      simp only [he, Option.map_some, Option.some.injEq] at h; subst h
      have hr := eqA_run (w := w) hT hE 9 10000 t _ _ r (by omega) he
      have hg : P.eqGuardType P.depth t = false := (hE t (eqA_ok he)).2
      simp [eqGuard, binOp, Op.equal, Op.maxDepth, hr, hg, flatV]
  · simp at h
theorem unA_run {op : UnOp} {x v : Value} (h : unA op x = some v) : (Op.unary op x).run P w = .ok v w ∧ flatV v = true := by
  unfold unA at h
  split at h
  · obtain rfl := Option.some.inj h; simp [Op.unary, Op.intArith, flatV]
  · obtain rfl := Option.some.inj h; simp [Op.unary, flatV]
  · simp at h
end
end Go.Proofs.Ytbmejhabgoimeaa.Eng
set_option linter.unusedVariables false
set_option linter.unusedSimpArgs false
namespace Go.Proofs.Ytbmejhabgoimeaa.Eng
open Go Go.RowKit

/-! ### what an operation does on the abstract side -/
def evParts (t : List Value) : List (Nat × Operand) → Option (List (Nat × Value))
  | [] => some []
  | (i, x) :: r => match evL t x, evParts t r with | some v, some l => some ((i, v) :: l) | _, _ => none
def evAll (t : List Value) : List Operand → Option (List Value)
  | [] => some []
  | x :: r => match ev t x, evAll t r with | some v, some l => some (v :: l) | _, _ => none
def evAllL (t : List Value) : List Operand → Option (List Value)
  | [] => some []
  | x :: r => match evL t x, evAllL t r with | some v, some l => some (v :: l) | _, _ => none
def newA (H : Heap) (b : Blk) : Option (Value × Heap) :=
  some (.pointer (some ⟨H.length, 0, none⟩), H ++ [some b])
def buildA (T : Ty) (ty : Nat) (parts : List (Nat × Value)) : Option Value :=
  match T ty with
  | some d => match d.und with
    | .struct fs => match offsL T fs.toList with
      | some pl => (fillL (fun i => pl[i]?) d.zero parts).map fun cs => .agg ⟨cs⟩
      | none => none
    | .array _ e => match T e with
      | some de => (fillL (fun i => some (i * de.size, de.size)) d.zero parts).map fun cs => .agg ⟨cs⟩
      | none => none
    | _ => none
  | none => none
/-- n elements that are zero. -/
def zerosL (z : List Value) : Nat → List Value
  | 0 => []
  | n + 1 => z ++ zerosL z n
def elemT (T : Ty) (ty : Nat) : Option (Nat × TyD) :=
  match T ty with
  | some d => match d.und with
    | .slice e => (T e).map fun de => (e, de)
    | _ => none
  | none => none
def buildSliceA (T : Ty) (ty len : Nat) (parts : List (Nat × Value)) (H : Heap) : Option (Value × Heap) :=
  match elemT T ty with
  | some (e, de) => if len * de.size ≤ 16777216 then
      match fillL (fun i => some (i * de.size, de.size)) (zerosL de.zero len) parts with
      | some cs => some (.slice (some ⟨H.length, 0, none⟩) len (len + 1), H ++ [some ⟨cs, de.size, true, de.fl && cs.all flatV⟩])
      | none => none
    else none
  | none => none
def makeSliceA (T : Ty) (ty : Nat) (l c : Value) (H : Heap) : Option (Value × Heap) :=
  match elemT T ty, l, c with
  | some (e, de), .int k n, .int k' m => if 0 ≤ n ∧ n = m ∧ (de.bytes : Int) * n ≤ 281474976710656 ∧ n ≤ 9223372036854775807 then
      some (.slice (some ⟨H.length, 0, none⟩) n.toNat (n.toNat + 1), H ++ [some ⟨zerosL de.zero n.toNat, de.size, true, de.fl⟩]) else none
  | _, _, _ => none
def loadVarA (T : Ty) (ty : Nat) (x : Value) (H : Heap) : Option Value :=
  match x, T ty with
  | .pointer (some a), some d => match loadA H a.block a.off (if aggD d.und = true then d.size else 1) with
    | some cs => if aggD d.und = true then some (.agg ⟨cs⟩) else cs[0]?
    | none => none
  | _, _ => none
def storeVarA (T : Ty) (B ty : Nat) (x y : Value) (H : Heap) : Option Heap :=
  match x, T ty with
  | .pointer (some a), some d => if (cellsL y).length = d.size then storeA B H a.block a.off (cellsL y) else none
  | _, _ => none
def fieldAtA (T : Ty) (ty : Nat) (x : Value) (f : Nat) : Option Value :=
  match x, T ty with
  | .pointer (some a), some d => match d.und with
    | .struct fs => match fs[f]? with
      | some fd => match T fd.type with
        | some df => if df.size = 0 then none else some (.pointer (some ⟨a.block, a.off + fd.offset, none⟩))
        | none => none
      | none => none
    | _ => none
  | _, _ => none
def fieldA (T : Ty) (ty : Nat) (x : Value) (f : Nat) : Option Value :=
  match x, T ty with
  | .agg cs, some d => match d.und with
    | .struct fs => match fs[f]? with
      | some fd => partL T fd.type cs.toList fd.offset
      | none => none
    | _ => none
  | _, _ => none
def indexAtA (T : Ty) (ty : Nat) (x i : Value) : Option Value :=
  match T ty, i with
  | some d, .int _ n => match d.und, x with
    | .array len e, .pointer (some a) => match T e with
      | some de => if 0 ≤ n ∧ n < (len : Int) then some (.pointer (some ⟨a.block, a.off + n.toNat * de.size, none⟩)) else none
      | none => none
    | .slice e, .slice (some a) len _ => match T e with
      | some de => if 0 ≤ n ∧ n < (len : Int) then some (.pointer (some ⟨a.block, a.off + n.toNat * de.size, none⟩)) else none
      | none => none
    | _, _ => none
  | _, _ => none
def indexA (T : Ty) (ty : Nat) (x i : Value) : Option Value :=
  match T ty, i with
  | some d, .int _ n => match d.und, x with
    | .array len e, .agg cs => match T e with
      | some de => if 0 ≤ n ∧ n < (len : Int) then partL T e cs.toList (n.toNat * de.size) else none
      | none => none
    | .string, .string s => if 0 ≤ n then (s.data.toList[n.toNat]?).map fun b => .int .u8 (b.toNat : Int) else none
    | _, _ => none
  | _, _ => none
def intOf? : Option Value → Option (Option Int)
  | none => some none
  | some (.int _ n) => some (some n)
  | some _ => none
/-- A cut: lo, hi, max as numbers. -/
def sliceA (T : Ty) (ty : Nat) (x : Value) (lo hi mx : Option Int) (H : Heap) : Option Value :=
  match T ty with
  | some d => match d.und, x with
    | .string, .string s =>
      if mx.isNone = true ∧ 0 ≤ lo.getD 0 ∧ lo.getD 0 ≤ hi.getD s.size ∧ hi.getD s.size ≤ (s.size : Int) then some (.string (s.extract (lo.getD 0).toNat (hi.getD s.size).toNat)) else none
    | .slice e, .slice none 0 0 => match T e with
      | some _ => if (lo.getD 0) = 0 ∧ (hi.getD 0) = 0 ∧ mx.isNone = true then some (.slice none 0 0) else none
      | none => none
    | .slice e, .slice (some a) n c => match T e, getB H a.block with
      | some de, some b => if b.sz = de.size then
        match mx with
        | none => if 0 ≤ lo.getD 0 ∧ lo.getD 0 ≤ hi.getD n ∧ (hi.getD n ≤ (n : Int) ∨ hi.getD n < (c : Int)) ∧ (c = 0 ∨ lo.getD 0 < (c : Int)) then
            some (.slice (some ⟨a.block, a.off + (lo.getD 0).toNat * de.size, none⟩) ((hi.getD n).toNat - (lo.getD 0).toNat) (c - (lo.getD 0).toNat)) else none
        | some m => if hi.isSome = true ∧ 0 ≤ lo.getD 0 ∧ lo.getD 0 ≤ hi.getD n ∧ hi.getD n ≤ m ∧ (m ≤ (n : Int) ∨ m < (c : Int)) then
            some (.slice (some ⟨a.block, a.off + (lo.getD 0).toNat * de.size, none⟩) ((hi.getD n).toNat - (lo.getD 0).toNat) (m.toNat - (lo.getD 0).toNat + 1)) else none
        else none
      | _, _ => none
    | _, _ => none
  | none => none
def convA (T : Ty) (s d : Nat) (x : Value) : Option Value :=
  match T s, T d, x with
  | some ds, some dd, .int _ n => match dd.und with | .int k => some (.int k (k.wrap n)) | _ => none
  | some ds, some dd, .string b => match dd.und with | .string => some (.string b) | _ => none
  | _, _, _ => none
def lenA (T : Ty) (ty : Nat) (x : Value) : Option Value :=
  match T ty with
  | some d => match d.und, x with
    | .string, .string s => some (.int .i64 s.size)
    | .array n _, _ => some (.int .i64 n)
    | .slice _, .slice _ n _ => some (.int .i64 n)
    | _, _ => none
  | none => none
def maxA : Value → List Value → Option Value
  | x, [] => some x
  | .int k x, .int _ y :: r => maxA (.int k (if y > x then y else x)) r
  | _, _ => none
def minA : Value → List Value → Option Value
  | x, [] => some x
  | .int k x, .int _ y :: r => minA (.int k (if y < x then y else x)) r
  | _, _ => none
/-- The cells of n elements of a slice. -/
def rowA (H : Heap) (size : Nat) : Value → Nat → Option (List Value)
  | .slice (some a) n c, m => if m ≤ n then loadA H a.block a.off (m * size) else none
  | .slice none 0 0, m => if m = 0 then some [] else none
  | _, _ => none
def appendA (T : Ty) (B ty ty2 : Nat) (s x : Value) (H : Heap) : Option (Value × Heap) :=
  if ty = ty2 then
    match elemT T ty, x with
    | some (e, de), .slice xa m xc =>
      if m = 0 then (match s with | .slice _ _ _ => some (s, H) | _ => none) else
      match rowA H de.size (.slice xa m xc) m with
      | none => none
      | some news =>
        let fl := de.fl
        match s with
        | .slice none 0 0 => if m * de.bytes ≤ 140737488355328 ∧ m ≤ 9223372036854775807 ∧ news.all (·.oneCell') = true then
            some (.slice (some ⟨H.length, 0, none⟩) m (m + 1), H ++ [some ⟨news, de.size, true, fl && news.all flatV⟩]) else none
        | .slice (some a) n c =>
          if (n + m) * de.bytes ≤ 140737488355328 ∧ n + m ≤ 9223372036854775807 ∧ news.all (·.oneCell') = true then
            match loadA H a.block a.off (n * de.size) with
            | none => none
            | some olds =>
              if c = 0 then some (.slice (some ⟨H.length, 0, none⟩) (n + m) (n + m + 1), H ++ [some ⟨olds ++ news, de.size, true, fl && (olds ++ news).all flatV⟩])
              else if n + m < c then (storeA B H a.block (a.off + n * de.size) news).map fun H' => (.slice (some a) (n + m) c, H')
              else match getB H a.block with
                | some b => if b.wr = true ∧ b.sz = de.size then
                    some (.slice (some ⟨H.length, 0, none⟩) (n + m) (n + m + 1), H.set a.block none ++ [some ⟨olds ++ news, de.size, true, fl && (olds ++ news).all flatV⟩]) else none
                | none => none
          else none
        | _ => none
    | _, _ => none
  else none
def copyA (T : Ty) (B ty : Nat) (d s : Value) (H : Heap) : Option (Value × Heap) :=
  match elemT T ty, d, s with
  | some (e, de), .slice da n _, .slice _ m _ =>
    if min m n = 0 then some (.int .i64 0, H) else
    match rowA H de.size s (min m n), da with
    | some cs, some a => (storeA B H a.block a.off cs).map fun H' => (.int .i64 ((min m n : Nat) : Int), H')
    | _, _ => none
  | _, _, _ => none
def clearA (T : Ty) (B ty : Nat) (x : Value) (H : Heap) : Option (Value × Heap) :=
  match elemT T ty, x with
  | some (e, de), .slice xa n _ => if n = 0 then some (undef, H) else
    match xa with
    | some a => (storeA B H a.block a.off (zerosL de.zero n)).map fun H' => (undef, H')
    | none => none
  | _, _ => none

def builtinA (T : Ty) (B : Nat) (b : Builtin) (tys : List Nat) (args : List Value) (H : Heap) : Option (Value × Heap) :=
  match b, tys, args with
  | .len, ty :: _, x :: _ => (lenA T ty x).map (·, H)
  | .max, _, x :: r => (maxA x r).map (·, H)
  | .min, _, x :: r => (minA x r).map (·, H)
  | .append, [t1, t2], [s, x] => appendA T B t1 t2 s x H
  | .copy, t1 :: _, [d, s] => copyA T B t1 d s H
  | .clear, [ty], [x] => clearA T B ty x H
  | _, _, _ => none

def optInt (t : List Value) : Option Operand → Option (Option Int)
  | none => some none
  | some x => match evL t x with | some (.int _ n) => some (some n) | _ => none

def opA (T : Ty) (eqOk : Nat → Bool) (B : Nat) (t : List Value) (H : Heap) (o : Oper) : Option (Value × Heap) :=
  match o.op with
  | .move x => (ev t x).map (·, H)
  | .assign x => (ev t x).map (·, H)
  | .pick c a b => match evL t c with
    | some (.bool q) => if q = true then (ev t a).map (·, H) else (ev t b).map (·, H)
    | _ => none
  | .alloc e => match T e with | some d => newA H ⟨d.zero, 0, true, d.fl⟩ | none => none
  | .box e x => match T e, evL t x with | some d, some v => newA H ⟨cellsL v, 0, true, d.fl && (cellsL v).all flatV⟩ | _, _ => none
  | .build ty parts => match evParts t parts.toList with | some l => (buildA T ty l).map (·, H) | none => none
  | .buildSlice ty len parts => match evParts t parts.toList with | some l => buildSliceA T ty len l H | none => none
  | .load ty x => match evL t x with | some v => (loadVarA T ty v H).map (·, H) | none => none
  | .store ty x y => match evL t x, evL t y with | some a, some v => (storeVarA T B ty a v H).map (undef, ·) | _, _ => none
  | .nilCheck x => match evL t x with | some (.pointer (some a)) => some (.pointer (some a), H) | some (.func f fs cs) => some (.func f fs cs, H) | _ => none
  | .binOp op ty x y _ => match evL t x, evL t y with | some a, some b => (binA T eqOk op ty a b).map (·, H) | _, _ => none
  | .unOp op _ x => match evL t x with | some a => (unA op a).map (·, H) | none => none
  | .convert s d x => match evL t x with | some a => (convA T s d a).map (·, H) | none => none
  | .makeFunc (.func f) first caps => if first.size = 0 then (evAllL t caps.toList).map fun l => (.func (.func f) #[] ⟨l⟩, H) else none
  | .makeSlice ty l c => match evL t l, evL t c with | some a, some b => makeSliceA T ty a b H | _, _ => none
  | .slice ty x lo hi mx => match evL t x, optInt t lo, optInt t hi, optInt t mx with
    | some v, some l, some h, some m => (sliceA T ty v l h m H).map (·, H)
    | _, _, _, _ => none
  | .fieldAddr ty x f => match evL t x with | some v => (fieldAtA T ty v f).map (·, H) | none => none
  | .field ty x f => match evL t x with | some v => (fieldA T ty v f).map (·, H) | none => none
  | .indexAddr ty x i => match evL t x, evL t i with | some v, some n => (indexAtA T ty v n).map (·, H) | _, _ => none
  | .index ty x i => match evL t x, evL t i with | some v, some n => (indexA T ty v n).map (·, H) | _, _ => none
  | .extract x i => match evL t x with | some (.tuple vs) => (vs.toList[i]?).map (·, H) | _ => none
  | .call ⟨.builtin b, args, tys⟩ => match evAllL t args.toList with | some l => builtinA T B b tys.toList l H | none => none
  | _ => none
end Go.Proofs.Ytbmejhabgoimeaa.Eng
set_option linter.unusedVariables false
set_option linter.unusedSimpArgs false
namespace Go.Proofs.Ytbmejhabgoimeaa.Eng
open Go Go.RowKit

section
variable {P : Program} {T : Ty} {w0 w : World} {ι : Ren} {H : Heap} {t : List Value} {a : Act} {B : Nat}

theorem HRel.cells (h : HRel w0 ι H w) {id o n : Nat} {vs : List Value} (hl : loadA H id o n = some vs) {L : Loc} (hi : ι id = some L) :
    ∃ vs' : List Value, vs'.length = n ∧ (∀ (j : Nat) (v : Value), vs'[j]? = some v → w.cell? ((⟨L.blk, L.off + o, none⟩ : Addr).add j) = some v) ∧ LRel ι vs vs' := by
  unfold loadA at hl
  split at hl
  · rename_i b hb
    split at hl
    · rename_i hn
      obtain rfl := Option.some.inj hl
      obtain ⟨c, e, fr, hc, ha, hb1, hs, hcell, hw⟩ := h.blk id L b hi (getB_eq.1 hb)
      have hlen : ((b.cells.drop o).take n).length = n := by simp; omega
      refine ⟨(c.toList.drop (L.off + o)).take n, by simp; omega, ?_, ?_, ?_⟩
      · intro j v hv
        have hj : j < n := by
          have := (List.getElem?_eq_some_iff.1 hv).1
          simp at this; omega
        rw [List.getElem?_take, if_pos hj, List.getElem?_drop] at hv
        rw [addr_add, cell_of_row w L.blk _ c e fr hc]
        simpa using hv
      · simp; omega
      · intro j v v' h1 h2
        have hj : j < n := by have := (List.getElem?_eq_some_iff.1 h1).1; omega
        rw [List.getElem?_take, if_pos hj, List.getElem?_drop] at h1 h2
        obtain ⟨u, k1, k2⟩ := hcell (o + j) v h1
        rw [show L.off + o + j = L.off + (o + j) by omega] at h2
        rw [Array.getElem?_toList, k1] at h2
        rw [← Option.some.inj h2]; exact k2
    · simp at hl
  · simp at hl
theorem loadA_length {id o n : Nat} {vs : List Value} (hl : loadA H id o n = some vs) : vs.length = n := by
  unfold loadA at hl
  split at hl
  · split at hl
    · obtain rfl := Option.some.inj hl; simp; omega
    · simp at hl
  · simp at hl

theorem evParts_rel (hs : TS ι t a.tmps) : ∀ (ps : List (Nat × Operand)) (l : List (Nat × Value)), evParts t ps = some l →
    (ps.map fun p => (p.1, a.eval p.2)).length = l.length ∧ ∀ (j : Nat) p p', l[j]? = some p → (ps.map fun p => (p.1, a.eval p.2))[j]? = some p' → p.1 = p'.1 ∧ VRel ι p.2 p'.2
  | [], l, h => by simp [evParts] at h; subst h; simp
  | (i, x) :: r, l, h => by
    simp only [evParts] at h
    split at h
    · rename_i v l' hv hl'
      obtain rfl := Option.some.inj h
      obtain ⟨e1, e2⟩ := evParts_rel hs r l' hl'
      refine ⟨by simpa using e1, fun j p p' h1 h2 => ?_⟩
      cases j with
      | zero => simp at h1 h2; subst h1; subst h2; exact ⟨rfl, evL_rel hs hv⟩
      | succ j => simp at h1 h2; exact e2 j p p' h1 (by simpa using h2)
    · simp at h
theorem evAllL_rel (hs : TS ι t a.tmps) : ∀ (xs : List Operand) (l : List Value), evAllL t xs = some l → LRel ι l (xs.map a.eval)
  | [], l, h => by simp [evAllL] at h; subst h; exact .nil ι
  | x :: r, l, h => by
    simp only [evAllL] at h
    split at h
    · rename_i v l' hv hl'
      obtain rfl := Option.some.inj h
      exact .cons (evL_rel hs hv) (evAllL_rel hs r l' hl')
    · simp at h
theorem evAll_rel (hs : TS ι t a.tmps) : ∀ (xs : List Operand) (l : List Value), evAll t xs = some l → l.length = xs.length ∧ ∀ (i : Nat) (v v' : Value), l[i]? = some v → (xs.map a.eval)[i]? = some v' → TRel ι v v'
  | [], l, h => by simp [evAll] at h; subst h; simp
  | x :: r, l, h => by
    simp only [evAll] at h
    split at h
    · rename_i v l' hv hl'
      obtain rfl := Option.some.inj h
      obtain ⟨e1, e2⟩ := evAll_rel hs r l' hl'
      refine ⟨by simpa using e1, fun i u u' h1 h2 => ?_⟩
      cases i with
      | zero => simp at h1 h2; subst h1; subst h2; exact ev_rel hs hv
      | succ i => simp at h1 h2; exact e2 i u u' h1 (by simpa using h2)
    · simp at h

/-- A new variable. -/
theorem new_ok (hH : HRel w0 ι H w) (hB : B ≤ H.length) {b : Blk} {cs : List Value} {e : TypeId} (hc : LRel ι b.cells cs) (hf : b.fl = true → ∀ v ∈ b.cells, flatV v = true) {v : Value} {H' : Heap} (h : newA H b = some (v, H')) :
    StepOk w0 ι B H (.ok (.value (.pointer (some ⟨w.heap.size, 0, none⟩))) (w.alloc (.cells ⟨cs⟩ e))) v H' := by
  simp only [newA, Option.some.injEq, Prod.mk.injEq] at h
  obtain ⟨rfl, rfl⟩ := h
  have hp := hH.push b ⟨cs⟩ e (by simp [hc.1]) (fun j v hv => by obtain ⟨v', h1, h2⟩ := hc.get hv; exact ⟨v', by simpa using h1, h2⟩) hf
  refine ⟨_, _, _, _, rfl, .inl rfl, hp, .inr (.ptr _ _ ⟨w.heap.size, 0, cs.length, b.sz⟩ (by simp [upd])), upd_ext ι _ _, OCs.push B H _ hB, by simp⟩

theorem buildA_run (hT : TyOk P T) {ty : Nat} {parts : List (Nat × Value)} {parts' : Array (Nat × Value)} (hl : parts'.toList.length = parts.length)
    (hp : ∀ (j : Nat) p p', parts[j]? = some p → parts'.toList[j]? = some p' → p.1 = p'.1 ∧ VRel ι p.2 p'.2) {v : Value} (h : buildA T ty parts = some v) :
    ∃ v', (Instr.build ty parts').run P w = .ok v' w ∧ VRel ι v v' := by
  unfold buildA at h
  split at h
  · rename_i d hd
    obtain ⟨i, z, hi, hi1, hi2, hz, hzc⟩ := (hT ty d hd).info
    have hu := (hT ty d hd).und
    have hzr : LRel ι d.zero z.cells.toList := by rw [hzc]; exact LRel.flat (fun v hv => (List.all_eq_true.1 (hT ty d hd).zflat) v hv)
    split at h
    · rename_i fs hfs
      rw [hfs] at hu
      split at h
      · rename_i pl hpl
        cases hfl : fillL (fun i => pl[i]?) d.zero parts with
        | none => simp [hfl] at h
        | some cs =>
          simp only [hfl, Option.map_some, Option.some.injEq] at h; subst h
          obtain ⟨r', hr1, hr2⟩ := fillL_rel (fun i => pl[i]?) parts parts'.toList d.zero z.cells.toList cs hzr hl.symm hp hfl
          refine ⟨.agg ⟨r'⟩, run_build w ty parts' ⟨r'⟩ ?_, .agg _ _ hr2.1 hr2.2⟩
          unfold Program.built
          have hplaces : fs.toList.mapM (fun f => (P.info? f.type).map fun i => (f.offset, i.size)) = some pl := by
            clear hfl hr1 hr2 hu hfs
            generalize fs.toList = l at hpl ⊢
            induction l generalizing pl with
            | nil => simp [offsL] at hpl; subst hpl; simp
            | cons f l ih =>
              simp only [offsL] at hpl
              split at hpl
              · rename_i df l' hdf hl'
                obtain rfl := Option.some.inj hpl
                obtain ⟨i', z', g1, g2, _⟩ := (hT _ _ hdf).info
                simp [List.mapM_cons, g1, ih _ hl', g2]
              · simp at hpl
          simp only [hi, hu, hz, hplaces]
          rw [fill_eq]
          simp [hr1]
      · simp at h
    · rename_i n e hfs
      rw [hfs] at hu
      split at h
      · rename_i de hde
        obtain ⟨ie, ze, g1, g2, _⟩ := (hT e de hde).info
        cases hfl : fillL (fun i => some (i * de.size, de.size)) d.zero parts with
        | none => simp [hfl] at h
        | some cs =>
          simp only [hfl, Option.map_some, Option.some.injEq] at h; subst h
          obtain ⟨r', hr1, hr2⟩ := fillL_rel _ parts parts'.toList d.zero z.cells.toList cs hzr hl.symm hp hfl
          refine ⟨.agg ⟨r'⟩, run_build w ty parts' ⟨r'⟩ ?_, .agg _ _ hr2.1 hr2.2⟩
          unfold Program.built
          simp only [hi, hu, hz, g1, g2]
          rw [fill_eq]
          simp [hr1]
      · simp at h
    · simp at h
  · simp at h

theorem zerosL_length (z : List Value) (n : Nat) : (zerosL z n).length = n * z.length := by
  induction n with
  | zero => simp [zerosL]
  | succ n ih => simp [zerosL, ih, Nat.succ_mul, Nat.add_comm]
theorem zerosL_get (z : List Value) : ∀ (n j : Nat), j < n * z.length → (zerosL z n)[j]? = z[j % z.length]?
  | 0, j, h => by simp at h
  | n + 1, j, h => by
    simp only [zerosL]
    by_cases hj : j < z.length
    · rw [List.getElem?_append_left hj, Nat.mod_eq_of_lt hj]
    · have e : (n + 1) * z.length = n * z.length + z.length := Nat.succ_mul n _
      rw [List.getElem?_append_right (by omega), zerosL_get z n (j - z.length) (by omega)]
      congr 1
      exact (Nat.mod_eq_sub_mod (by omega)).symm
theorem zeros_range (z : Array Value) (n : Nat) : ((Array.range (n * z.size)).map fun i => z[i % z.size]!).toList = zerosL z.toList n := by
  apply List.ext_getElem?
  intro j
  by_cases hj : j < n * z.size
  · rw [zerosL_get _ _ _ (by simpa using hj)]
    have hm : j % z.size < z.size := Nat.mod_lt _ (Nat.pos_of_ne_zero fun h0 => by rw [h0] at hj; simp at hj)
    rw [Array.toList_map, List.getElem?_map, Array.toList_range, List.getElem?_range hj]
    simp [hm]
  · rw [List.getElem?_eq_none (by simp; omega), List.getElem?_eq_none (by rw [zerosL_length]; simp; omega)]
theorem zerosL_flat {z : List Value} (h : z.all flatV = true) (n : Nat) : ∀ v ∈ zerosL z n, flatV v = true := by
  induction n with
  | zero => simp [zerosL]
  | succ n ih => intro v hv; simp only [zerosL, List.mem_append] at hv; exact hv.elim (fun q => (List.all_eq_true.1 h) v q) (ih v)
theorem elemT_eq (hT : TyOk P T) {ty e : Nat} {de : TyD} (h : elemT T ty = some (e, de)) : P.underlying ty = some (.slice e) ∧ T e = some de := by
  unfold elemT at h
  split at h
  · rename_i d hd
    split at h
    · rename_i e' hu
      cases he : T e' with
      | none => simp [he] at h
      | some q => simp [he] at h; obtain ⟨rfl, rfl⟩ := h; exact ⟨by have := (hT ty d hd).und; rwa [hu] at this, he⟩
    · simp at h
  · simp at h

theorem buildSliceA_run (hT : TyOk P T) (hH : HRel w0 ι H w) (hB : B ≤ H.length) {ty len : Nat} {parts : List (Nat × Value)} {parts' : Array (Nat × Value)} (hl : parts'.toList.length = parts.length)
    (hp : ∀ (j : Nat) p p', parts[j]? = some p → parts'.toList[j]? = some p' → p.1 = p'.1 ∧ VRel ι p.2 p'.2) {v : Value} {H' : Heap} (h : buildSliceA T ty len parts H = some (v, H')) :
    StepOk w0 ι B H (((Instr.buildSlice ty len parts').run P w).andThen fun v w => .ok (.value v) w) v H' := by
  unfold buildSliceA at h
  split at h
  · rename_i e de he
    obtain ⟨hu, hde⟩ := elemT_eq hT he
    split at h
    · rename_i hsz
      split at h
      · rename_i cs hfl
        simp only [Option.some.injEq, Prod.mk.injEq] at h
        obtain ⟨rfl, rfl⟩ := h
        obtain ⟨z, hz, hzc⟩ := hT.zeroValue (w := w) hde
        have hzl := (hT e de hde).zlen
        have hzr : LRel ι (zerosL de.zero len) (zerosL de.zero len) := LRel.flat (zerosL_flat (hT e de hde).zflat len)
        obtain ⟨r', hr1, hr2⟩ := fillL_rel _ parts parts'.toList _ _ cs hzr hl.symm hp hfl
        have fin : ∀ zc : Array Value, ((Array.range (len * de.size)).map (fun x => zc[x % zc.size]!)).toList = zerosL de.zero len →
            (match Instr.fill (fun i => some (i * de.size, de.size)) ((Array.range (len * de.size)).map (fun x => zc[x % zc.size]!)) parts'.toList with
              | some cells => (do let a ← newRow e cells; pure (Value.slice (some a) len len) : Sem Value)
              | _ => stuck "buildSlice: a part of the wrong size").run P w = .ok (.slice (some ⟨w.heap.size, 0, none⟩) len len) (w.alloc (.cells ⟨r'⟩ e)) := fun zc hzc => by
          rw [fill_eq, hzc, hr1]; rfl
        have hrun : (Instr.buildSlice ty len parts').run P w = .ok (.slice (some ⟨w.heap.size, 0, none⟩) len len) (w.alloc (.cells ⟨r'⟩ e)) := by
          unfold Instr.buildSlice
          simp only [Sem.run_bind, run_underlying hu, Result.andThen_ok, hT.sizeOf hde]
          rw [if_neg (by simpa using hsz)]
          by_cases h0 : len * de.size = 0
          · rw [if_pos h0]
            simp only [pure_bind]
            refine fin #[] ?_
            rw [h0]; simp
            have : (zerosL de.zero len).length = 0 := by rw [zerosL_length, hzl]; exact h0
            exact List.eq_nil_of_length_eq_zero this
          · rw [if_neg h0]
            simp only [Sem.run_bind, hz, Result.andThen_ok, pure_bind]
            refine fin z.cells ?_
            have hs : z.cells.size = de.size := by rw [← hzl, ← hzc]; simp
            rw [← hs, ← hzc]
            exact zeros_range z.cells len
        rw [hrun]
        have hlen : cs.length = r'.length := hr2.1
        have hlr : r'.length = len * de.size := by
          have hk : ∀ (parts : List (Nat × Value)) (c r : List Value), fillL (fun i => some (i * de.size, de.size)) c parts = some r → r.length = c.length := by
            intro parts
            induction parts with
            | nil => intro c r h; simp [fillL] at h; rw [h]
            | cons p ps ih =>
              intro c r h
              obtain ⟨i, v⟩ := p
              simp only [fillL] at h
              split at h
              · simp at h
              · rename_i hc
                rw [ih _ _ h, splice_length (by simp at hc; omega)]
          rw [hk _ _ _ hr1, zerosL_length, hzl]
        have hp := hH.push ⟨cs, de.size, true, de.fl && cs.all flatV⟩ ⟨r'⟩ e (by simp [hlen]) (fun j v hv => by obtain ⟨v', h1, h2⟩ := hr2.get hv; exact ⟨v', by simpa using h1, h2⟩)
          (fun hf v hv => (List.all_eq_true.1 (by simp at hf; exact List.all_eq_true.2 hf.2)) v hv)
        refine ⟨_, _, _, _, rfl, .inl rfl, hp, .inr ?_, upd_ext ι _ _, OCs.push B H _ hB, by simp⟩
        refine .sl _ _ _ _ ⟨w.heap.size, 0, r'.length, de.size⟩ _ _ (by simp [upd]) (Nat.le_refl _) ?_ ?_ ?_ (.inl rfl)
        · omega
        · omega
        · simp [hlr]
      · simp at h
    · simp at h
  · simp at h
end
end Go.Proofs.Ytbmejhabgoimeaa.Eng
set_option linter.unusedVariables false
set_option linter.unusedSimpArgs false
namespace Go.Proofs.Ytbmejhabgoimeaa.Eng
open Go Go.RowKit

section
variable {P : Program} {T : Ty} {w0 w : World} {ι : Ren} {H : Heap} {t : List Value} {a : Act} {B : Nat}

theorem madeCells_list (z : Value) (n : Nat) : (madeCells z.cells (n * z.cells.size)).toList = zerosL z.cells.toList n := zeros_range z.cells n

theorem makeSliceA_run (hT : TyOk P T) (hH : HRel w0 ι H w) (hB : B ≤ H.length) {ty : Nat} {l c l' c' : Value} (hl : VRel ι l l') (hc : VRel ι c c') {v : Value} {H' : Heap} (h : makeSliceA T ty l c H = some (v, H')) :
    StepOk w0 ι B H (((Instr.makeSlice ty l' c').run P w).andThen fun v w => .ok (.value v) w) v H' := by
  unfold makeSliceA at h
  split at h
  · rename_i e de k n k' m he
    cases hl; cases hc
    split at h
    · rename_i hcond
      obtain ⟨h0, hnm, hby, h63⟩ := hcond
      subst hnm
      simp only [Option.some.injEq, Prod.mk.injEq] at h
      obtain ⟨rfl, rfl⟩ := h
      obtain ⟨hu, hde⟩ := elemT_eq hT he
      obtain ⟨i, z, g1, g2, g3, g4, g5⟩ := (hT e de hde).info
      have hzl := (hT e de hde).zlen
      have hs : z.cells.size = de.size := by rw [← hzl, ← g5]; simp
      rw [run_make w ty e i z hu g1 g4 k k' n n h0 (Int.le_refl _) (by rw [g3]; exact hby) h63]
      simp only [Result.andThen_ok]
      have hm : madeCells z.cells (n.toNat * i.size) = ⟨zerosL de.zero n.toNat⟩ := by
        apply Array.ext'
        rw [g2, ← hs, madeCells_list, g5]
      rw [hm]
      have hfl : ∀ v ∈ zerosL de.zero n.toNat, flatV v = true := zerosL_flat (hT e de hde).zflat _
      have hp := hH.push ⟨zerosL de.zero n.toNat, de.size, true, de.fl⟩ ⟨zerosL de.zero n.toNat⟩ e (by simp) (fun j v hv => ⟨v, by simpa using hv, .flat (hfl v (List.mem_of_getElem? hv))⟩) (fun _ => hfl)
      refine ⟨_, _, _, _, rfl, .inl rfl, hp, .inr ?_, upd_ext ι _ _, OCs.push B H _ hB, by simp⟩
      refine .sl _ _ _ _ ⟨w.heap.size, 0, (zerosL de.zero n.toNat).length, de.size⟩ _ _ (by simp [upd]) (Nat.le_refl _) ?_ ?_ ?_ (.inl rfl)
      · omega
      · omega
      · simp [zerosL_length, hzl]
    · simp at h
  · simp at h

theorem loadVarA_run (hT : TyOk P T) (hH : HRel w0 ι H w) {ty : Nat} {x x' v : Value} (hx : VRel ι x x') (h : loadVarA T ty x H = some v) :
    ∃ v', (Instr.loadAt ty x').run P w = .ok v' w ∧ VRel ι v v' := by
  unfold loadVarA at h
  split at h
  · rename_i ad d hd
    cases hx with
    | ptr b o L hL =>
      simp only at h
      split at h
      · rename_i cs hcs
        obtain ⟨vs', hlen, hcell, hrel⟩ := hH.cells hcs hL
        by_cases hagg : aggD d.und = true
        · simp only [hagg, if_true, Option.some.injEq] at h hcs hlen; subst h
          refine ⟨.agg ⟨vs'⟩, ?_, .agg _ _ hrel.1 hrel.2⟩
          have := run_loadCells_list (P := P) w ⟨L.blk, L.off + o, none⟩ vs' hcell
          rw [hlen] at this
          simp [Instr.loadAt, Instr.sureAddr, loadVar, hT.isAgg hd, hagg, hT.sizeOf hd, this]
        · have hagg' : aggD d.und = false := by simpa using hagg
          simp only [hagg', Bool.false_eq_true, if_false] at h hcs hlen
          obtain ⟨v', g1, g2⟩ := hrel.get h
          refine ⟨v', ?_, g2⟩
          have hc := hcell 0 v' g1
          simp only [addr_add, Nat.add_zero] at hc
          simp [Instr.loadAt, Instr.sureAddr, loadVar, hT.isAgg hd, hagg', hc]
      · simp at h
  · simp at h

theorem storeVarA_run (hT : TyOk P T) (hH : HRel w0 ι H w) {ty : Nat} {x x' y y' : Value} {H' : Heap} (hx : VRel ι x x') (hy : VRel ι y y') (h : storeVarA T B ty x y H = some H') :
    ∃ w', (Instr.storeAt ty x' y').run P w = .ok () w' ∧ HRel w0 ι H' w' ∧ OCs B H H' ∧ H'.length = H.length := by
  unfold storeVarA at h
  split at h
  · rename_i ad d hd
    cases hx with
    | ptr b o L hL =>
      simp only at h
      split at h
      · rename_i hsz
        have hcr := cells_rel hy
        obtain ⟨w', g1, g2⟩ := hH.store (P := P) h hL hcr
        refine ⟨w', ?_, g2⟩
        have hsz' : y'.cells.size = d.size := by rw [← hsz, hcr.1, cellsL_eq]; simp
        rw [cellsL_eq] at g1
        simp [Instr.storeAt, Instr.sureAddr, storeVar, hT.sizeOf hd, hsz', g1]
      · simp at h
  · simp at h

theorem fieldAtA_run (hT : TyOk P T) {ty f : Nat} {x x' v : Value} (hx : VRel ι x x') (h : fieldAtA T ty x f = some v) :
    ∃ v', (Instr.fieldAt ty x' f).run P w = .ok v' w ∧ VRel ι v v' := by
  unfold fieldAtA at h
  split at h
  · rename_i ad d hd
    cases hx with
    | ptr b o L hL =>
      split at h
      · rename_i fs hfs
        have hu := (hT ty d hd).und; rw [hfs] at hu
        split at h
        · rename_i fd hfd
          split at h
          · rename_i df hdf
            split at h
            · simp at h
            · rename_i hne
              obtain rfl := Option.some.inj h
              refine ⟨.pointer (some ⟨L.blk, L.off + (o + fd.offset), none⟩), ?_, .ptr _ _ L hL⟩
              simp [Instr.fieldAt, run_underlying hu, hfd, Instr.sureAddr, fieldPlace, hT.sizeOf hdf, hne, addr_add, Nat.add_assoc]
          · simp at h
        · simp at h
      · simp at h
  · simp at h

theorem partL_rel {ty off : Nat} {cs cs' : List Value} {v : Value} (hr : LRel ι cs cs') (h : partL T ty cs off = some v) : ∃ v', partL T ty cs' off = some v' ∧ VRel ι v v' := by
  unfold partL at h ⊢
  split at h
  · rename_i d hd
    split at h
    · rename_i ha
      simp only [ha, if_true]
      split at h
      · rename_i hc
        obtain rfl := Option.some.inj h
        rw [if_pos (by rw [← hr.1]; exact hc)]
        have q := (hr.drop off).take d.size
        exact ⟨_, rfl, .agg _ _ q.1 q.2⟩
      · simp at h
    · rename_i ha
      simp only [ha, if_false]
      exact hr.get h
  · simp at h

theorem fieldA_run (hT : TyOk P T) {ty f : Nat} {x x' v : Value} (hx : VRel ι x x') (h : fieldA T ty x f = some v) :
    ∃ v', (Instr.field ty x' f).run P w = .ok v' w ∧ VRel ι v v' := by
  unfold fieldA at h
  split at h
  · rename_i cs d hd
    cases hx with
    | agg xs ys hl hxy =>
      split at h
      · rename_i fs hfs
        have hu := (hT ty d hd).und; rw [hfs] at hu
        split at h
        · rename_i fd hfd
          obtain ⟨v', g1, g2⟩ := partL_rel (ι := ι) (T := T) ⟨hl, hxy⟩ h
          refine ⟨v', ?_, g2⟩
          simp [Instr.field, run_underlying hu, hfd, asAgg, part_run hT g1]
        · simp at h
      · simp at h
  · simp at h

theorem indexAtA_run (hT : TyOk P T) {ty : Nat} {x x' i i' v : Value} (hx : VRel ι x x') (hi : VRel ι i i') (h : indexAtA T ty x i = some v) :
    ∃ v', (Instr.indexAt ty x' i').run P w = .ok v' w ∧ VRel ι v v' := by
  unfold indexAtA at h
  split at h
  · rename_i d k n hd
    cases hi
    split at h
    · rename_i len e ad hu0
      have hu := (hT ty d hd).und; rw [hu0] at hu
      cases hx with
      | ptr b o L hL =>
        split at h
        · rename_i de hde
          split at h
          · rename_i hc
            obtain rfl := Option.some.inj h
            refine ⟨.pointer (some ⟨L.blk, L.off + (o + n.toNat * de.size), none⟩), ?_, .ptr _ _ L hL⟩
            simp [Instr.indexAt, asIntOf, run_underlying hu, Instr.sureAddr, hc, hT.sizeOf hde, addr_add, Nat.add_assoc]
          · simp at h
        · simp at h
    · rename_i e ad len c hu0
      have hu := (hT ty d hd).und; rw [hu0] at hu
      cases hx with
      | sl b o n1 c1 L a' c' hL hn hz hl hx ha =>
        split at h
        · rename_i de hde
          split at h
          · rename_i hc
            obtain rfl := Option.some.inj h
            have ha' : a' = ⟨L.blk, L.off + o, none⟩ := ha.resolve_right (by omega)
            subst ha'
            refine ⟨.pointer (some ⟨L.blk, L.off + (o + n.toNat * de.size), none⟩), ?_, .ptr _ _ L hL⟩
            simp [Instr.indexAt, asIntOf, run_underlying hu, hc, hT.sizeOf hde, addr_add, Nat.add_assoc]
          · simp at h
        · simp at h
    · simp at h
  · simp at h

theorem indexA_run (hT : TyOk P T) {ty : Nat} {x x' i i' v : Value} (hx : VRel ι x x') (hi : VRel ι i i') (h : indexA T ty x i = some v) :
    ∃ v', (Instr.index ty x' i').run P w = .ok v' w ∧ VRel ι v v' := by
  unfold indexA at h
  split at h
  · rename_i d k n hd
    cases hi
    split at h
    · rename_i len e cs hu0
      have hu := (hT ty d hd).und; rw [hu0] at hu
      cases hx with
      | agg xs ys hl hxy =>
        split at h
        · rename_i de hde
          split at h
          · rename_i hc
            obtain ⟨v', g1, g2⟩ := partL_rel (ι := ι) (T := T) ⟨hl, hxy⟩ h
            refine ⟨v', ?_, g2⟩
            simp [Instr.index, asIntOf, run_underlying hu, hc, hT.sizeOf hde, part_run hT g1]
          · simp at h
        · simp at h
    · rename_i s hu0
      have hu := (hT ty d hd).und; rw [hu0] at hu
      cases hx
      split at h
      · rename_i h0
        cases hb : s.data.toList[n.toNat]? with
        | none => simp [hb] at h
        | some b =>
          simp only [hb, Option.map_some, Option.some.injEq] at h; subst h
          have hb' : s[n.toNat]? = some b := by
            rw [Array.getElem?_toList] at hb
            obtain ⟨h1, h2⟩ := Array.getElem?_eq_some_iff.1 hb
            rw [getElem?_pos s n.toNat h1]
            exact congrArg some h2
          exact ⟨_, by simp [Instr.index, asIntOf, run_underlying hu, h0, hb'], .int _ _⟩
      · simp at h
    · simp at h
  · simp at h

theorem convA_run (hT : TyOk P T) {s d : Nat} {x x' v : Value} (hx : VRel ι x x') (h : convA T s d x = some v) :
    ∃ v', (convert s d x').run P w = .ok v' w ∧ VRel ι v v' := by
  unfold convA at h
  split at h
  · rename_i ds dd k n hs hd
    cases hx
    split at h
    · rename_i k' hu0
      obtain rfl := Option.some.inj h
      have hu := (hT d dd hd).und; rw [hu0] at hu
      have hus := (hT s ds hs).und
      refine ⟨_, ?_, .int _ _⟩
      cases hq : ds.und <;> rw [hq] at hus <;> simp [convert, run_underlying hus, run_underlying hu, Conv.intToInt]
    · simp at h
  · rename_i ds dd b hs hd
    cases hx
    split at h
    · rename_i hu0
      obtain rfl := Option.some.inj h
      have hu := (hT d dd hd).und; rw [hu0] at hu
      have hus := (hT s ds hs).und
      refine ⟨_, ?_, .str _⟩
      cases hq : ds.und <;> rw [hq] at hus <;> simp [convert, run_underlying hus, run_underlying hu]
    · simp at h
  · simp at h

theorem lenA_run (hT : TyOk P T) {ty : Nat} {x x' v : Value} {tys : Array TypeId} {rt : TypeId} {args' : Array Value} (hty : tys[0]? = some ty) (ha : args'[0]? = some x') (hx : VRel ι x x') (h : lenA T ty x = some v) :
    ∃ v', (Builtin.len_ tys rt args').run P w = .ok v' w ∧ VRel ι v v' := by
  unfold lenA at h
  split at h
  · rename_i d hd
    have hu := (hT ty d hd).und
    split at h
    · rename_i s hu0; rw [hu0] at hu; cases hx; obtain rfl := Option.some.inj h
      exact ⟨_, by simp [Builtin.len_, hty, ha, run_underlying hu, goInt], .int _ _⟩
    · rename_i n e hu0; rw [hu0] at hu; obtain rfl := Option.some.inj h
      exact ⟨_, by simp [Builtin.len_, hty, ha, run_underlying hu, goInt], .int _ _⟩
    · rename_i e b n c hu0; rw [hu0] at hu; obtain rfl := Option.some.inj h
      cases hx with
      | nilSl => exact ⟨_, by simp [Builtin.len_, hty, ha, run_underlying hu, goInt], .int _ _⟩
      | sl b o n1 c1 L a' c' hL hn hz hl hx ha1 => exact ⟨_, by simp [Builtin.len_, hty, ha, run_underlying hu, goInt], .int _ _⟩
    · simp at h
  · simp at h

theorem maxA_run : ∀ (r r' : List Value) (x x' v : Value), VRel ι x x' → LRel ι r r' → maxA x r = some v → ∃ v', (r'.foldlM Builtin.max2 x' : Sem Value).run P w = .ok v' w ∧ VRel ι v v'
  | [], r', x, x', v, hx, hr, h => by
    have : r' = [] := List.eq_nil_of_length_eq_zero (by have := hr.1; simpa using this.symm)
    subst this
    simp [maxA] at h; subst h; exact ⟨x', rfl, hx⟩
  | y :: r, r', x, x', v, hx, hr, h => by
    obtain ⟨y', r'', rfl, hy, hr'⟩ := hr.inv_cons
    unfold maxA at h
    split at h
    · simp_all
    · rename_i k a k' b r1 e
      injection e with e1 e2; subst e1; subst e2
      cases hx; cases hy
      obtain ⟨v', g1, g2⟩ := maxA_run r r'' _ _ v (.int k (if b > a then b else a)) hr' h
      exact ⟨v', by simpa [List.foldlM_cons, Builtin.max2] using g1, g2⟩
    · simp at h
theorem minA_run : ∀ (r r' : List Value) (x x' v : Value), VRel ι x x' → LRel ι r r' → minA x r = some v → ∃ v', (r'.foldlM Builtin.min2 x' : Sem Value).run P w = .ok v' w ∧ VRel ι v v'
  | [], r', x, x', v, hx, hr, h => by
    have : r' = [] := List.eq_nil_of_length_eq_zero (by have := hr.1; simpa using this.symm)
    subst this
    simp [minA] at h; subst h; exact ⟨x', rfl, hx⟩
  | y :: r, r', x, x', v, hx, hr, h => by
    obtain ⟨y', r'', rfl, hy, hr'⟩ := hr.inv_cons
    unfold minA at h
    split at h
    · simp_all
    · rename_i k a k' b r1 e
      injection e with e1 e2; subst e1; subst e2
      cases hx; cases hy
      obtain ⟨v', g1, g2⟩ := minA_run r r'' _ _ v (.int k (if b < a then b else a)) hr' h
      exact ⟨v', by simpa [List.foldlM_cons, Builtin.min2] using g1, g2⟩
    · simp at h

/-- The bounds of a cut as the machine has them. -/
theorem sliceBound_run {k : IntKind} {i : Int} {y : Nat} {code : BoundsCode} (h0 : 0 ≤ i) (h1 : i ≤ y) : (Instr.sliceBound (.int k i) y code).run P w = .ok i.toNat w := by
  simp [Instr.sliceBound, asIntOf, h0, h1]
end
end Go.Proofs.Ytbmejhabgoimeaa.Eng
