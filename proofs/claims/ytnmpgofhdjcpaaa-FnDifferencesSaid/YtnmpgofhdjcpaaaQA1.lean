/- Lemmas for the proof, no conditions of their own. -/
import Derived.Orders
import Derived.Below
import Derived.LoopN
import Derived.Laws.CopyRow
import Derived.Laws.Rows
import Derived.Laws.Entries
import Derived.Laws.StructEq
import Derived.Laws.AppendOwn
import Derived.Laws.MakeOwn
import Derived.Laws.Tables
import Derived.Laws.BytesString
set_option linter.unusedVariables false
namespace Go.Proofs.Ytnmpgofhdjcpaaa.Eng
open Go Go.RowKit
/-- Where an abstract row lies: block, first cell, how many cells there are from there on, the cells of an element. -/
structure Loc where
  blk : Nat
  off : Nat
  avail : Nat
  sz : Nat
abbrev Ren := Nat → Option Loc
/-- What a variable holds that is not read any more. -/
def dead : Value := .chan none
/-- An abstract value and a value of the machine: blocks renamed, capacities at least as told. -/
inductive VRel (ι : Ren) : Value → Value → Prop
  | bool (b : Bool) : VRel ι (.bool b) (.bool b)
  | int (k : IntKind) (n : Int) : VRel ι (.int k n) (.int k n)
  | str (s : ByteArray) : VRel ι (.string s) (.string s)
  | nilPtr : VRel ι (.pointer none) (.pointer none)
  | nilFunc : VRel ι .nilFunc .nilFunc
  | nilIface : VRel ι .nilIface .nilIface
  | ptr (b o : Nat) (L : Loc) (h : ι b = some L) : VRel ι (.pointer (some ⟨b, o, none⟩)) (.pointer (some ⟨L.blk, L.off + o, none⟩))
  | nilSl : VRel ι (.slice none 0 0) (.slice none 0 0)
  | sl (b o n c : Nat) (L : Loc) (a' : Addr) (c' : Nat) (h : ι b = some L) (hn : n ≤ c') (hz : c = 0 → c' = 0) (hl : c ≤ c' + 1) (hx : o + c' * L.sz ≤ L.avail)
      (ha : a' = ⟨L.blk, L.off + o, none⟩ ∨ c' = 0) : VRel ι (.slice (some ⟨b, o, none⟩) n c) (.slice (some a') n c')
  | agg (xs ys : List Value) (hl : xs.length = ys.length) (h : ∀ (i : Nat) (v v' : Value), xs[i]? = some v → ys[i]? = some v' → VRel ι v v') : VRel ι (.agg ⟨xs⟩) (.agg ⟨ys⟩)
  | tuple (xs ys : List Value) (hl : xs.length = ys.length) (h : ∀ (i : Nat) (v v' : Value), xs[i]? = some v → ys[i]? = some v' → VRel ι v v') : VRel ι (.tuple ⟨xs⟩) (.tuple ⟨ys⟩)
  | func (f : FuncId) (xs ys : List Value) (hl : xs.length = ys.length) (h : ∀ (i : Nat) (v v' : Value), xs[i]? = some v → ys[i]? = some v' → VRel ι v v') : VRel ι (.func (.func f) #[] ⟨xs⟩) (.func (.func f) #[] ⟨ys⟩)
/-- Lists of values, one by one. -/
def LRel (ι : Ren) (xs ys : List Value) : Prop := xs.length = ys.length ∧ ∀ (i : Nat) (v v' : Value), xs[i]? = some v → ys[i]? = some v' → VRel ι v v'
theorem VRel.mono {ι ι' : Ren} (hm : ∀ id L, ι id = some L → ι' id = some L) {v v' : Value} (h : VRel ι v v') : VRel ι' v v' := by
  induction h with
  | bool b => exact .bool b
  | int k n => exact .int k n
  | str s => exact .str s
  | nilPtr => exact .nilPtr
  | nilFunc => exact .nilFunc
  | nilIface => exact .nilIface
  | ptr b o L h => exact .ptr b o L (hm _ _ h)
  | nilSl => exact .nilSl
  | sl b o n c L a' c' h hn hz hl hx ha => exact .sl b o n c L a' c' (hm _ _ h) hn hz hl hx ha
  | agg xs ys hl _ ih => exact .agg xs ys hl ih
  | tuple xs ys hl _ ih => exact .tuple xs ys hl ih
  | func f xs ys hl _ ih => exact .func f xs ys hl ih
theorem LRel.mono {ι ι' : Ren} (hm : ∀ id L, ι id = some L → ι' id = some L) {xs ys : List Value} (h : LRel ι xs ys) : LRel ι' xs ys :=
  ⟨h.1, fun i v v' a b => (h.2 i v v' a b).mono hm⟩
theorem LRel.nil (ι : Ren) : LRel ι [] [] := ⟨rfl, fun i v v' h => by simp at h⟩
theorem LRel.cons {ι : Ren} {v v' : Value} {xs ys : List Value} (h : VRel ι v v') (hs : LRel ι xs ys) : LRel ι (v :: xs) (v' :: ys) :=
  ⟨by simp [hs.1], fun i a a' h1 h2 => by
    cases i with
    | zero => simp at h1 h2; subst h1; subst h2; exact h
    | succ i => simp at h1 h2; exact hs.2 i a a' h1 h2⟩
theorem LRel.inv_cons {ι : Ren} {v : Value} {xs ys : List Value} (h : LRel ι (v :: xs) ys) : ∃ v' ys', ys = v' :: ys' ∧ VRel ι v v' ∧ LRel ι xs ys' := by
  cases ys with
  | nil => have := h.1; simp at this
  | cons v' ys' => exact ⟨v', ys', rfl, h.2 0 v v' (by simp) (by simp), by have := h.1; simp at this; exact this, fun i a a' h1 h2 => h.2 (i + 1) a a' (by simpa using h1) (by simpa using h2)⟩
theorem LRel.get {ι : Ren} {xs ys : List Value} (h : LRel ι xs ys) {i : Nat} {v : Value} (hv : xs[i]? = some v) : ∃ v', ys[i]? = some v' ∧ VRel ι v v' := by
  have hi : i < xs.length := (List.getElem?_eq_some_iff.1 hv).1
  have hi' : i < ys.length := h.1 ▸ hi
  exact ⟨ys[i], by simp [hi'], h.2 i v _ hv (by simp [hi'])⟩
theorem LRel.append {ι : Ren} {xs ys us vs : List Value} (h : LRel ι xs ys) (k : LRel ι us vs) : LRel ι (xs ++ us) (ys ++ vs) := by
  refine ⟨by simp [h.1, k.1], fun i v v' h1 h2 => ?_⟩
  by_cases hi : i < xs.length
  · rw [List.getElem?_append_left hi] at h1; rw [List.getElem?_append_left (h.1 ▸ hi)] at h2; exact h.2 i v v' h1 h2
  · have hi1 : xs.length ≤ i := by omega
    have hi2 : ys.length ≤ i := by have := h.1; omega
    rw [List.getElem?_append_right hi1] at h1; rw [List.getElem?_append_right hi2, ← h.1] at h2; exact k.2 _ v v' h1 h2
theorem LRel.take {ι : Ren} {xs ys : List Value} (h : LRel ι xs ys) (n : Nat) : LRel ι (xs.take n) (ys.take n) := by
  refine ⟨by simp [h.1], fun i v v' h1 h2 => ?_⟩
  rw [List.getElem?_take] at h1 h2
  split at h1 <;> simp_all
  exact h.2 i v v' h1 h2
theorem LRel.drop {ι : Ren} {xs ys : List Value} (h : LRel ι xs ys) (n : Nat) : LRel ι (xs.drop n) (ys.drop n) := by
  refine ⟨by simp [h.1], fun i v v' h1 h2 => ?_⟩
  rw [List.getElem?_drop] at h1 h2
  exact h.2 _ v v' h1 h2
theorem LRel.set {ι : Ren} {xs ys : List Value} (h : LRel ι xs ys) {u u' : Value} (hu : VRel ι u u') (n : Nat) : LRel ι (xs.set n u) (ys.set n u') := by
  refine ⟨by simp [h.1], fun i v v' h1 h2 => ?_⟩
  rw [List.getElem?_set] at h1 h2
  split at h1
  · rename_i e; subst e
    simp only [if_true] at h2
    split at h1 <;> split at h2 <;> simp_all
  · rename_i e; simp only [e, if_false] at h2; exact h.2 i v v' h1 h2
theorem LRel.replicate {ι : Ren} {v v' : Value} (h : VRel ι v v') (n : Nat) : LRel ι (List.replicate n v) (List.replicate n v') := by
  refine ⟨by simp, fun i u u' h1 h2 => ?_⟩
  rw [List.getElem?_replicate] at h1 h2
  split at h1 <;> simp_all
/-- A value that names no block. -/
def flatV : Value → Bool
  | .bool _ | .int _ _ | .string _ | .nilFunc | .nilIface | .pointer none | .slice none 0 0 => true
  | _ => false
theorem VRel.flat {ι : Ren} {v : Value} (h : flatV v = true) : VRel ι v v := by
  unfold flatV at h
  split at h <;> first | exact .bool _ | exact .int _ _ | exact .str _ | exact .nilFunc | exact .nilIface | exact .nilPtr | exact .nilSl | exact absurd h (by simp)
theorem VRel.flat_eq {ι : Ren} {v v' : Value} (h : flatV v = true) (r : VRel ι v v') : v' = v := by
  cases r <;> simp_all [flatV]
theorem LRel.flat {ι : Ren} {xs : List Value} (h : ∀ v ∈ xs, flatV v = true) : LRel ι xs xs :=
  ⟨rfl, fun i v v' h1 h2 => by rw [h1] at h2; obtain rfl := Option.some.inj h2; exact .flat (h _ (List.mem_of_getElem? h1))⟩
/-- What a variable holds: a value, or nothing that is read. -/
def TRel (ι : Ren) (v v' : Value) : Prop := v = dead ∨ VRel ι v v'
def isDead : Value → Bool | .chan _ => true | _ => false
theorem VRel.alive {ι : Ren} {v v' : Value} (h : VRel ι v v') : isDead v = false := by cases h <;> rfl
theorem TRel.live {ι : Ren} {v v' : Value} (h : TRel ι v v') (hd : isDead v = false) : VRel ι v v' := by
  rcases h with rfl | h
  · simp [dead, isDead] at hd
  · exact h
theorem TRel.mono {ι ι' : Ren} (hm : ∀ id L, ι id = some L → ι' id = some L) {v v' : Value} (h : TRel ι v v') : TRel ι' v v' := h.imp id (VRel.mono hm)
/-- An abstract row of cells. -/
structure Blk where
  cells : List Value
  sz : Nat
  wr : Bool
  fl : Bool
abbrev Heap := List (Option Blk)
/-- What is known of the world in which the law begins. -/
def GInv (w : World) : Prop := True
/-- Draws are counted upward. -/
def Mono (a b : World) : Prop := a.drawn ≤ b.drawn
theorem Mono.refl (a : World) : Mono a a := Nat.le_refl _
theorem Mono.drawn {a b : World} {n : Nat} (h : Mono a b) (hn : b.drawn ≤ n) : Mono a { b with drawn := n } := Nat.le_trans h hn
/-- The abstract heap lies in the world. -/
structure HRel (w0 : World) (ι : Ren) (H : Heap) (w : World) : Prop where
  below : Below w0.heap.size w0 w
  dom : ∀ id L, ι id = some L → id < H.length
  blk : ∀ (id : Nat) (L : Loc) (b : Blk), ι id = some L → H[id]? = some (some b) → ∃ c e fr, w.heap[L.blk]? = some (.cells c e fr) ∧ L.off + L.avail ≤ c.size ∧ b.cells.length ≤ L.avail ∧ L.sz = b.sz ∧
    (∀ (j : Nat) (v : Value), b.cells[j]? = some v → ∃ v', c[L.off + j]? = some v' ∧ VRel ι v v') ∧ (b.wr = true → w0.heap.size ≤ L.blk ∧ fr = (0, 0))
  sep : ∀ (i j : Nat) (L M : Loc) (b b2 : Blk), ι i = some L → ι j = some M → i ≠ j → H[i]? = some (some b) → b.wr = true → H[j]? = some (some b2) → L.blk ≠ M.blk
  flat : ∀ (id : Nat) (b : Blk), H[id]? = some (some b) → b.fl = true → ∀ v ∈ b.cells, flatV v = true
  tot : ∀ (id : Nat) (b : Blk), H[id]? = some (some b) → (∃ L, ι id = some L) ∨ ∀ v ∈ b.cells, flatV v = true
  glob : GInv w0 ∧ Mono w0 w
/-- What v means hangs on the blocks below B alone. -/
def Lt (B : Nat) (v : Value) : Prop := ∀ (ι ι' : Ren) (v' : Value), (∀ id, id < B → ι' id = ι id) → VRel ι v v' → VRel ι' v v'
theorem Lt.flat {B : Nat} {v : Value} (h : flatV v = true) : Lt B v := fun ι ι' v' _ r => by have := r.flat_eq h; subst this; exact .flat h
theorem Lt.of {ι : Ren} {B : Nat} {v v' : Value} (h : VRel ι v v') (hd : ∀ id L, ι id = some L → id < B) : Lt B v := by
  intro ι1 ι2 u hE r
  induction h generalizing u with
  | bool b => cases r; exact .bool b
  | int k n => cases r; exact .int k n
  | str s => cases r; exact .str s
  | nilPtr => cases r; exact .nilPtr
  | nilFunc => cases r; exact .nilFunc
  | nilIface => cases r; exact .nilIface
  | ptr b o L h => cases r with | ptr _ _ L1 h1 => exact .ptr b o L1 (by rw [hE _ (hd _ _ h)]; exact h1)
  | nilSl => cases r; exact .nilSl
  | sl b o n c L a' c' h hn hz hl hx ha => cases r with | sl _ _ _ _ L1 a1 c1 h1 hn1 hz1 hl1 hx1 ha1 => exact .sl b o n c L1 a1 c1 (by rw [hE _ (hd _ _ h)]; exact h1) hn1 hz1 hl1 hx1 ha1
  | agg xs ys hl h ih => cases r with | agg _ ys1 hl1 h1 =>
      refine .agg xs ys1 hl1 fun i a a1 ha ha1 => ?_
      have hi : i < ys.length := by rw [← hl]; exact (List.getElem?_eq_some_iff.1 ha).1
      exact ih i a ys[i] ha (by simp [hi]) a1 (h1 i a a1 ha ha1)
  | tuple xs ys hl h ih => cases r with | tuple _ ys1 hl1 h1 =>
      refine .tuple xs ys1 hl1 fun i a a1 ha ha1 => ?_
      have hi : i < ys.length := by rw [← hl]; exact (List.getElem?_eq_some_iff.1 ha).1
      exact ih i a ys[i] ha (by simp [hi]) a1 (h1 i a a1 ha ha1)
  | func f xs ys hl h ih => cases r with | func _ _ ys1 hl1 h1 =>
      refine .func f xs ys1 hl1 fun i a a1 ha ha1 => ?_
      have hi : i < ys.length := by rw [← hl]; exact (List.getElem?_eq_some_iff.1 ha).1
      exact ih i a ys[i] ha (by simp [hi]) a1 (h1 i a a1 ha ha1)
theorem Lt.mono {B B' : Nat} {v : Value} (h : Lt B v) (hB : B ≤ B') : Lt B' v := fun ι ι' v' hE r => h ι ι' v' (fun id hi => hE id (by omega)) r
/-- Blocks below B name blocks below B alone. -/
def OC (B : Nat) (H : Heap) : Prop := ∀ (id : Nat) (b : Blk) (v : Value), id < B → H[id]? = some (some b) → v ∈ b.cells → Lt B v
/-- What a step keeps. -/
def OCs (B : Nat) (H H' : Heap) : Prop := ∀ B', B' ≤ B → OC B' H → OC B' H'
theorem OCs.refl (B : Nat) (H : Heap) : OCs B H H := fun _ _ h => h
theorem OCs.trans {B : Nat} {H1 H2 H3 : Heap} (h : OCs B H1 H2) (k : OCs B H2 H3) : OCs B H1 H3 := fun B' hB o => k B' hB (h B' hB o)
theorem OCs.mono {B B1 : Nat} {H H' : Heap} (h : OCs B H H') (hB : B1 ≤ B) : OCs B1 H H' := fun B' hB' o => h B' (by omega) o
/-- The renaming grows. -/
def Ext (n : Nat) (ι ι' : Ren) : Prop := ∀ id, id < n → ι' id = ι id
theorem Ext.refl (n : Nat) (ι : Ren) : Ext n ι ι := fun _ _ => rfl
theorem Ext.trans {n m : Nat} {a b c : Ren} (h : Ext n a b) (k : Ext m b c) (hnm : n ≤ m) : Ext n a c := fun id hi => (k id (by omega)).trans (h id hi)
theorem Ext.mono {n m : Nat} {a b : Ren} (h : Ext n a b) (hm : m ≤ n) : Ext m a b := fun id hi => h id (by omega)
theorem HRel.ext {w0 w : World} {ι ι' : Ren} {H : Heap} (h : HRel w0 ι H w) (hE : Ext H.length ι ι') : ∀ id L, ι id = some L → ι' id = some L :=
  fun id L hi => by rw [hE id (h.dom id L hi)]; exact hi
end Go.Proofs.Ytnmpgofhdjcpaaa.Eng
set_option linter.unusedVariables false
set_option linter.unusedSimpArgs false
namespace Go.Proofs.Ytnmpgofhdjcpaaa.Eng
open Go Go.RowKit
def getB (H : Heap) (id : Nat) : Option Blk := match H[id]? with | some (some b) => some b | _ => none
theorem getB_eq {H : Heap} {id : Nat} {b : Blk} : getB H id = some b ↔ H[id]? = some (some b) := by
  unfold getB; split <;> simp_all
theorem getB_lt {H : Heap} {id : Nat} {b : Blk} (h : getB H id = some b) : id < H.length := (List.getElem?_eq_some_iff.1 (getB_eq.1 h)).1
def loadA (H : Heap) (id o n : Nat) : Option (List Value) :=
  match getB H id with
  | some b => if o + n ≤ b.cells.length then some ((b.cells.drop o).take n) else none
  | none => none
def splice (cs : List Value) (o : Nat) (vs : List Value) : List Value := cs.take o ++ vs ++ cs.drop (o + vs.length)
theorem splice_length {cs vs : List Value} {o : Nat} (h : o + vs.length ≤ cs.length) : (splice cs o vs).length = cs.length := by
  simp [splice]; omega
def storeA (B : Nat) (H : Heap) (id o : Nat) (vs : List Value) : Option Heap :=
  match getB H id with
  | some b => if b.wr = true ∧ o + vs.length ≤ b.cells.length ∧ vs.all (·.oneCell') = true ∧ ((b.fl = true ∨ id < B) → vs.all flatV = true) then some (H.set id (some { b with cells := splice b.cells o vs })) else none
  | none => none
def upd (ι : Ren) (n : Nat) (L : Loc) : Ren := fun id => if id = n then some L else ι id
theorem upd_ext (ι : Ren) (n : Nat) (L : Loc) : Ext n ι (upd ι n L) := fun id hi => by simp [upd, Nat.ne_of_lt hi]
theorem app_old {H : Heap} {x : Option Blk} {y : Option Blk} {j : Nat} (h : (H ++ [y])[j]? = some x) (hj : j ≠ H.length) : H[j]? = some x := by
  by_cases hl : j < H.length
  · rwa [List.getElem?_append_left hl] at h
  · rw [List.getElem?_eq_none (by simp; omega)] at h; simp at h
theorem app_new {H : Heap} {x : Option Blk} {y : Option Blk} (h : (H ++ [y])[H.length]? = some x) : x = y := by simpa using h.symm
section
variable {w0 w : World} {ι : Ren} {H : Heap} {P : Program}
theorem HRel.n0 (h : HRel w0 ι H w) : w0.heap.size ≤ w.heap.size := h.below.size
theorem HRel.updExt (h : HRel w0 ι H w) (L : Loc) : ∀ id M, ι id = some M → upd ι H.length L id = some M := h.ext (upd_ext ι H.length L)
theorem HRel.lt (h : HRel w0 ι H w) {id : Nat} {L : Loc} {b : Blk} (hi : ι id = some L) (hb : H[id]? = some (some b)) : L.blk < w.heap.size := by
  obtain ⟨c, e, fr, hc, _⟩ := h.blk id L b hi hb
  exact (Array.getElem?_eq_some_iff.1 hc).1
theorem HRel.drewW (h : HRel w0 ι H w) (n : Nat) (hn : w.drawn ≤ n) : HRel w0 ι H { w with drawn := n } :=
  ⟨⟨h.below.os, h.below.tape, h.below.output, h.below.size, h.below.block⟩, h.dom, h.blk, h.sep, h.flat, h.tot, h.glob.1, h.glob.2.drawn hn⟩
/-- A new block. -/
theorem HRel.push (h : HRel w0 ι H w) (b : Blk) (c : Array Value) (e : TypeId) (hl : b.cells.length ≤ c.size)
    (hc : ∀ (j : Nat) (v : Value), b.cells[j]? = some v → ∃ v', c[j]? = some v' ∧ VRel ι v v') (hf : b.fl = true → ∀ v ∈ b.cells, flatV v = true) :
    HRel w0 (upd ι H.length ⟨w.heap.size, 0, c.size, b.sz⟩) (H ++ [some b]) (w.alloc (.cells c e)) := by
  have hext := h.updExt ⟨w.heap.size, 0, c.size, b.sz⟩
  have old : ∀ (id : Nat) (x : Option Blk), (H ++ [some b])[id]? = some x → id ≠ H.length → H[id]? = some x := fun id x hx hne => app_old hx hne
  have new : ∀ (x : Option Blk), (H ++ [some b])[H.length]? = some x → x = some b := fun x hx => app_new hx
  have updo : ∀ id, id ≠ H.length → upd ι H.length ⟨w.heap.size, 0, c.size, b.sz⟩ id = ι id := fun id hne => by simp [upd, hne]
  have updn : upd ι H.length ⟨w.heap.size, 0, c.size, b.sz⟩ H.length = some ⟨w.heap.size, 0, c.size, b.sz⟩ := by simp [upd]
  refine ⟨h.below.alloc h.n0 _, ?_, ?_, ?_, ?_, ?_, h.glob⟩
  · intro id L hi
    by_cases he : id = H.length
    · subst he; simp
    · rw [updo id he] at hi; have := h.dom id L hi; simp; omega
  · intro id L b1 hi hb
    by_cases he : id = H.length
    · subst he
      rw [updn] at hi
      obtain rfl := Option.some.inj hi
      obtain rfl := Option.some.inj (new _ hb)
      refine ⟨c, e, (0, 0), by show (w.heap.push _)[w.heap.size]? = _; simp, by simp, hl, rfl, ?_, fun _ => ⟨h.n0, rfl⟩⟩
      intro j v hv
      obtain ⟨v', h1, h2⟩ := hc j v hv
      exact ⟨v', by simpa using h1, h2.mono hext⟩
    · rw [updo id he] at hi
      have hb' := old id _ hb he
      obtain ⟨c1, e1, fr, hc1, ha, hb1, hs, hcell, hw⟩ := h.blk id L b1 hi hb'
      refine ⟨c1, e1, fr, ?_, ha, hb1, hs, ?_, hw⟩
      · rw [Below.heap_alloc _ _ _ (h.lt hi hb')]; exact hc1
      · intro j v hv
        obtain ⟨v', h1, h2⟩ := hcell j v hv
        exact ⟨v', h1, h2.mono hext⟩
  · intro i j L M b1 b2 hi hj hne hb1 hw1 hb2
    by_cases hi0 : i = H.length
    · subst hi0
      have hj0 : j ≠ H.length := fun e => hne e.symm
      rw [updn] at hi; obtain rfl := Option.some.inj hi
      rw [updo j hj0] at hj
      have := h.lt hj (old j _ hb2 hj0)
      simp; omega
    · by_cases hj0 : j = H.length
      · subst hj0
        rw [updn] at hj; obtain rfl := Option.some.inj hj
        rw [updo i hi0] at hi
        have := h.lt hi (old i _ hb1 hi0)
        simp; omega
      · rw [updo i hi0] at hi; rw [updo j hj0] at hj
        exact h.sep i j L M b1 b2 hi hj hne (old i _ hb1 hi0) hw1 (old j _ hb2 hj0)
  · intro id b1 hb hfl v hv
    by_cases he : id = H.length
    · subst he
      obtain rfl := Option.some.inj (new _ hb)
      exact hf hfl v hv
    · exact h.flat id b1 (old id _ hb he) hfl v hv
  · intro id b1 hb
    by_cases he : id = H.length
    · subst he; exact .inl ⟨_, updn⟩
    · exact (h.tot id b1 (old id _ hb he)).imp (fun ⟨L, hL⟩ => ⟨L, hext _ _ hL⟩) (fun q => q)
theorem addr_add (b o j : Nat) : (⟨b, o, none⟩ : Addr).add j = ⟨b, o + j, none⟩ := by unfold Addr.add; split <;> simp_all
theorem HRel.load (h : HRel w0 ι H w) {id o n : Nat} {vs : List Value} (hl : loadA H id o n = some vs) {L : Loc} (hi : ι id = some L) :
    ∃ vs' : List Value, (loadCells ⟨L.blk, L.off + o, none⟩ n).run P w = .ok vs'.toArray w ∧ LRel ι vs vs' := by
  unfold loadA at hl
  split at hl
  · rename_i b hb
    split at hl
    · rename_i hn
      obtain rfl := Option.some.inj hl
      obtain ⟨c, e, fr, hc, ha, hb1, hs, hcell, hw⟩ := h.blk id L b hi (getB_eq.1 hb)
      have hlen : ((b.cells.drop o).take n).length = n := by simp; omega
      -- the cells that are there
      have key : ∀ (j : Nat), j < n → ∃ v v', ((b.cells.drop o).take n)[j]? = some v ∧ c[L.off + (o + j)]? = some v' ∧ VRel ι v v' := fun j hj => by
        have hlt : o + j < b.cells.length := by omega
        obtain ⟨v', h1, h2⟩ := hcell (o + j) b.cells[o + j] (by simp [hlt])
        exact ⟨_, v', by simp [List.getElem?_take, List.getElem?_drop, hj, hlt], h1, h2⟩
      refine ⟨(List.range n).map fun j => (c[L.off + (o + j)]?).getD undef, ?_, ?_, ?_⟩
      · have hq := run_loadCells (P := P) w ⟨L.blk, L.off + o, none⟩ n (fun j => (c[L.off + (o + j)]?).getD undef) (fun j hj => by
          obtain ⟨v, v', _, h1, _⟩ := key j hj
          rw [addr_add, cell_of_row w L.blk _ c e fr hc, show L.off + o + j = L.off + (o + j) by omega, h1]; rfl)
        exact hq
      · simp; omega
      · intro j v v' h1 h2
        have hj : j < n := by have := (List.getElem?_eq_some_iff.1 h1).1; omega
        obtain ⟨u, u', k1, k2, k3⟩ := key j hj
        rw [k1] at h1; obtain rfl := Option.some.inj h1
        simp [hj, k2] at h2
        rw [← h2]; exact k3
    · simp at hl
  · simp at hl
theorem oneCell_rel {v v' : Value} (h : VRel ι v v') : v'.oneCell' = v.oneCell' := by cases h <;> rfl
theorem HRel.store (h : HRel w0 ι H w) {B id o : Nat} {vs vs' : List Value} {H' : Heap} (hs : storeA B H id o vs = some H') {L : Loc} (hi : ι id = some L) (hr : LRel ι vs vs') :
    ∃ w', (storeCells ⟨L.blk, L.off + o, none⟩ vs' 0).run P w = .ok () w' ∧ HRel w0 ι H' w' ∧ OCs B H H' ∧ H'.length = H.length := by
  unfold storeA at hs
  split at hs
  · rename_i b hb
    split at hs
    · rename_i hc0
      obtain ⟨hwr, hlen, hone, hfl⟩ := hc0
      obtain rfl := Option.some.inj hs
      have hb0 := getB_eq.1 hb
      have hid : id < H.length := getB_lt hb
      obtain ⟨c, e, fr, hc, ha, hb1, hsz, hcell, hw⟩ := h.blk id L b hi hb0
      obtain ⟨hold, rfl⟩ := hw hwr
      have hl2 : vs'.length = vs.length := hr.1.symm
      have hone' : ∀ v ∈ vs', v.oneCell' = true := fun v hv => by
        obtain ⟨i, hi2⟩ := List.mem_iff_getElem?.1 hv
        have hlt : i < vs.length := by have := (List.getElem?_eq_some_iff.1 hi2).1; omega
        have := hr.2 i vs[i] v (by simp [hlt]) hi2
        rw [oneCell_rel this]
        exact (List.all_eq_true.1 hone) _ (List.getElem_mem hlt)
      have hst := run_storeCells_at P L.blk (L.off + o) e vs' 0 c w hc (by omega) hone'
      refine ⟨_, hst, ?_, ?_, by simp⟩
      · have hnew : (w.setRow L.blk (c.toList.take (L.off + o + 0) ++ vs' ++ c.toList.drop (L.off + o + 0 + vs'.length)).toArray).heap[L.blk]? = some (.cells (c.toList.take (L.off + o + 0) ++ vs' ++ c.toList.drop (L.off + o + 0 + vs'.length)).toArray e (0, 0)) := setRow_heap w L.blk c _ e (0, 0) hc
        have hoth : ∀ k, k ≠ L.blk → (w.setRow L.blk (c.toList.take (L.off + o + 0) ++ vs' ++ c.toList.drop (L.off + o + 0 + vs'.length)).toArray).heap[k]? = w.heap[k]? := fun k hk => setRow_other w L.blk k _ hk
        have hsame : ∀ (j : Nat) (x : Option Blk), j ≠ id → (H.set id (some { b with cells := splice b.cells o vs }))[j]? = some x → H[j]? = some x := fun j x hj hx => by
          rw [List.getElem?_set] at hx; rw [if_neg (Ne.symm hj)] at hx; exact hx
        have hat : ∀ (x : Option Blk), (H.set id (some { b with cells := splice b.cells o vs }))[id]? = some x → x = some { b with cells := splice b.cells o vs } := fun x hx => by
          rw [List.getElem?_set] at hx; simp [hid] at hx; exact hx.symm
        refine ⟨?_, ?_, ?_, ?_, ?_, ?_, h.glob⟩
        · refine h.below.trans ⟨rfl, rfl, rfl, by simp, fun k hk => hoth k (by omega)⟩
        · intro j M hj; simpa using h.dom j M hj
        · intro j M b1 hj hbj
          by_cases he : j = id
          · subst he
            rw [hi] at hj; obtain rfl := Option.some.inj hj
            obtain rfl := Option.some.inj (hat _ hbj)
            refine ⟨_, e, (0, 0), hnew, ?_, ?_, hsz, ?_, fun _ => ⟨hold, rfl⟩⟩
            · simp; omega
            · rw [splice_length hlen]; exact hb1
            · intro k v hv
              simp only [splice] at hv
              have hcs : c.size = c.toList.length := rfl
              by_cases hk1 : k < o
              · rw [List.getElem?_append_left (by simp; omega), List.getElem?_append_left (by simp; omega), List.getElem?_take, if_pos hk1] at hv
                obtain ⟨v', g1, g2⟩ := hcell k v hv
                refine ⟨v', ?_, g2⟩
                rw [List.getElem?_toArray, List.getElem?_append_left (by simp; omega), List.getElem?_append_left (by simp; omega), List.getElem?_take, if_pos (by omega)]
                simpa using g1
              · by_cases hk2 : k < o + vs.length
                · rw [List.getElem?_append_left (by simp; omega), List.getElem?_append_right (by simp; omega)] at hv
                  simp only [List.length_take] at hv
                  rw [show min o b.cells.length = o by omega] at hv
                  obtain ⟨v', g1, g2⟩ := hr.get hv
                  refine ⟨v', ?_, g2⟩
                  rw [List.getElem?_toArray, List.getElem?_append_left (by simp; omega), List.getElem?_append_right (by simp; omega)]
                  simp only [List.length_take, ← hcs]
                  rw [show L.off + k - min (L.off + o + 0) c.size = k - o by omega]
                  exact g1
                · rw [List.getElem?_append_right (by simp; omega)] at hv
                  simp only [List.length_append, List.length_take] at hv
                  rw [List.getElem?_drop, show o + vs.length + (k - (min o b.cells.length + vs.length)) = k by omega] at hv
                  obtain ⟨v', g1, g2⟩ := hcell k v hv
                  refine ⟨v', ?_, g2⟩
                  rw [List.getElem?_toArray, List.getElem?_append_right (by simp; omega)]
                  simp only [List.length_append, List.length_take, ← hcs]
                  rw [List.getElem?_drop, show L.off + o + 0 + vs'.length + (L.off + k - (min (L.off + o + 0) c.size + vs'.length)) = L.off + k by omega]
                  simpa using g1
          · have hbj' := hsame j _ he hbj
            obtain ⟨c1, e1, fr1, hc1, ha1, hb2, hs1, hcell1, hw1⟩ := h.blk j M b1 hj hbj'
            refine ⟨c1, e1, fr1, ?_, ha1, hb2, hs1, hcell1, hw1⟩
            rw [hoth _ ?_]; exact hc1
            exact (h.sep id j L M b b1 hi hj (Ne.symm he) hb0 hwr hbj').symm
        · intro i j M1 M2 b1 b2 hi1 hj1 hne h1 hw1 h2
          have g1 : ∃ b1', H[i]? = some (some b1') ∧ b1'.wr = true := by
            by_cases he : i = id
            · subst he; exact ⟨b, hb0, hwr⟩
            · exact ⟨b1, hsame i _ he h1, hw1⟩
          have g2 : ∃ b2', H[j]? = some (some b2') := by
            by_cases he : j = id
            · subst he; exact ⟨b, hb0⟩
            · exact ⟨b2, hsame j _ he h2⟩
          obtain ⟨b1', x1, x2⟩ := g1
          obtain ⟨b2', x3⟩ := g2
          exact h.sep i j M1 M2 b1' b2' hi1 hj1 hne x1 x2 x3
        · intro j b1 hbj hf v hv
          by_cases he : j = id
          · subst he
            obtain rfl := Option.some.inj (hat _ hbj)
            simp only [splice, List.mem_append] at hv
            rcases hv with (hv | hv) | hv
            · exact h.flat j b hb0 hf v (List.mem_of_mem_take hv)
            · exact (List.all_eq_true.1 (hfl (.inl hf))) v hv
            · exact h.flat j b hb0 hf v (List.mem_of_mem_drop hv)
          · exact h.flat j b1 (hsame j _ he hbj) hf v hv
        · intro j b1 hbj
          by_cases he : j = id
          · subst he; exact .inl ⟨L, hi⟩
          · exact h.tot j b1 (hsame j _ he hbj)
      · intro B' hB' ho j b1 v hj hbj hv
        by_cases he : j = id
        · subst he
          rw [List.getElem?_set] at hbj; simp [hid] at hbj; subst hbj
          simp only [splice, List.mem_append] at hv
          rcases hv with (hv | hv) | hv
          · exact ho j b v hj hb0 (List.mem_of_mem_take hv)
          · exact Lt.flat ((List.all_eq_true.1 (hfl (.inr (by omega)))) v hv)
          · exact ho j b v hj hb0 (List.mem_of_mem_drop hv)
        · rw [List.getElem?_set, if_neg (Ne.symm he)] at hbj
          exact ho j b1 v hj hbj hv
    · simp at hs
  · simp at hs
/-- A row that grows where it stands: its old name is gone. -/
theorem HRel.regrow (h : HRel w0 ι H w) {id o : Nat} {L : Loc} {b b' : Blk} {c' : Array Value} {w' : World} (hi : ι id = some L) (hb : H[id]? = some (some b)) (hwr : b.wr = true)
    (ho : o ≤ L.avail) (hsz : b'.sz = L.sz) (hlen : b'.cells.length ≤ L.avail - o) (hf : b'.fl = true → ∀ v ∈ b'.cells, flatV v = true)
    (hw : ∃ c e, w.heap[L.blk]? = some (.cells c e (0, 0)) ∧ w' = w.setRow L.blk c' ∧ c'.size = c.size)
    (hcell : ∀ (j : Nat) (v : Value), b'.cells[j]? = some v → ∃ v', c'[L.off + o + j]? = some v' ∧ VRel ι v v') :
    HRel w0 (upd ι H.length ⟨L.blk, L.off + o, L.avail - o, L.sz⟩) (H.set id none ++ [some b']) w' := by
  obtain ⟨c, e, hc, rfl, hcs⟩ := hw
  have hid : id < H.length := (List.getElem?_eq_some_iff.1 hb).1
  have hext := h.updExt ⟨L.blk, L.off + o, L.avail - o, L.sz⟩
  obtain ⟨c0, e0, fr0, hc0, ha, hb1, hsz0, _, hwo⟩ := h.blk id L b hi hb
  obtain ⟨hold, _⟩ := hwo hwr
  rw [hc] at hc0; injection hc0 with hc0; injection hc0 with q1 q2 q3; subst q1; subst q2
  have old : ∀ (j : Nat) (b1 : Blk), (H.set id none ++ [some b'])[j]? = some (some b1) → j ≠ H.length → j ≠ id ∧ H[j]? = some (some b1) := fun j b1 hx hne => by
    have hx := app_old hx (by simpa using hne)
    rw [List.getElem?_set] at hx
    by_cases e : id = j
    · subst e; simp [hid] at hx
    · rw [if_neg e] at hx; exact ⟨fun q => e q.symm, hx⟩
  have new : ∀ (x : Option Blk), (H.set id none ++ [some b'])[H.length]? = some x → x = some b' := fun x hx => by
    rw [List.getElem?_append_right (by simp)] at hx; simpa using hx.symm
  have updo : ∀ j, j ≠ H.length → upd ι H.length ⟨L.blk, L.off + o, L.avail - o, L.sz⟩ j = ι j := fun j hne => by simp [upd, hne]
  have updn : upd ι H.length ⟨L.blk, L.off + o, L.avail - o, L.sz⟩ H.length = some ⟨L.blk, L.off + o, L.avail - o, L.sz⟩ := by simp [upd]
  have hnew : (w.setRow L.blk c').heap[L.blk]? = some (.cells c' e (0, 0)) := setRow_heap w L.blk c c' e (0, 0) hc
  have hoth : ∀ k, k ≠ L.blk → (w.setRow L.blk c').heap[k]? = w.heap[k]? := fun k hk => setRow_other w L.blk k c' hk
  refine ⟨h.below.trans ⟨rfl, rfl, rfl, by simp, fun k hk => hoth k (by omega)⟩, ?_, ?_, ?_, ?_, ?_, h.glob⟩
  · intro j M hj
    by_cases he : j = H.length
    · subst he; simp
    · rw [updo j he] at hj; have := h.dom j M hj; simp; omega
  · intro j M b1 hj hbj
    by_cases he : j = H.length
    · subst he
      rw [updn] at hj; obtain rfl := Option.some.inj hj
      obtain rfl := Option.some.inj (new _ hbj)
      refine ⟨c', e, (0, 0), hnew, by simp; omega, hlen, hsz.symm, ?_, fun _ => ⟨hold, rfl⟩⟩
      intro k v hv
      obtain ⟨v', g1, g2⟩ := hcell k v hv
      exact ⟨v', g1, g2.mono hext⟩
    · obtain ⟨hne, hbj'⟩ := old j b1 hbj he
      rw [updo j he] at hj
      obtain ⟨c1, e1, fr1, hc1, ha1, hb2, hs1, hcell1, hw1⟩ := h.blk j M b1 hj hbj'
      refine ⟨c1, e1, fr1, ?_, ha1, hb2, hs1, fun k v hv => ?_, hw1⟩
      · rw [hoth _ (h.sep id j L M b b1 hi hj (Ne.symm hne) hb hwr hbj').symm]; exact hc1
      · obtain ⟨v', g1, g2⟩ := hcell1 k v hv; exact ⟨v', g1, g2.mono hext⟩
  · intro i j M1 M2 b1 b2 hi1 hj1 hne h1 hw1 h2
    by_cases hi0 : i = H.length
    · subst hi0
      have hj0 : j ≠ H.length := fun e => hne e.symm
      rw [updn] at hi1; obtain rfl := Option.some.inj hi1
      rw [updo j hj0] at hj1
      obtain ⟨hne2, h2'⟩ := old j b2 h2 hj0
      exact h.sep id j L M2 b b2 hi hj1 (Ne.symm hne2) hb hwr h2'
    · obtain ⟨hne1, h1'⟩ := old i b1 h1 hi0
      rw [updo i hi0] at hi1
      by_cases hj0 : j = H.length
      · subst hj0
        rw [updn] at hj1; obtain rfl := Option.some.inj hj1
        exact (h.sep id i L M1 b b1 hi hi1 (Ne.symm hne1) hb hwr h1').symm
      · obtain ⟨hne2, h2'⟩ := old j b2 h2 hj0
        rw [updo j hj0] at hj1
        exact h.sep i j M1 M2 b1 b2 hi1 hj1 hne h1' hw1 h2'
  · intro j b1 hbj hfl v hv
    by_cases he : j = H.length
    · subst he; obtain rfl := Option.some.inj (new _ hbj); exact hf hfl v hv
    · obtain ⟨hne, hbj'⟩ := old j b1 hbj he
      exact h.flat j b1 hbj' hfl v hv
  · intro j b1 hbj
    by_cases he : j = H.length
    · subst he; exact .inl ⟨_, updn⟩
    · obtain ⟨hne, hbj'⟩ := old j b1 hbj he
      exact (h.tot j b1 hbj').imp (fun ⟨L, hL⟩ => ⟨L, hext _ _ hL⟩) (fun q => q)
theorem OCs.push (B : Nat) (H : Heap) (x : Option Blk) (hB : B ≤ H.length) : OCs B H (H ++ [x]) := by
  intro B' hB' ho j b v hj hb hv
  rw [List.getElem?_append_left (by omega)] at hb
  exact ho j b v hj hb hv
theorem OCs.kill (B : Nat) (H : Heap) (id : Nat) : OCs B H (H.set id none) := by
  intro B' hB' ho j b v hj hb hv
  rw [List.getElem?_set] at hb
  split at hb
  · split at hb <;> simp at hb
  · exact ho j b v hj hb hv
theorem HRel.oc (h : HRel w0 ι H w) : OC H.length H := by
  intro j b v hj hb hv
  rcases h.tot j b hb with ⟨L, hL⟩ | hq
  rotate_left
  · exact Lt.flat (hq v hv)
  obtain ⟨c, e, fr, hc, _, _, _, hcell, _⟩ := h.blk j L b hL hb
  obtain ⟨i, hi⟩ := List.mem_iff_getElem?.1 hv
  obtain ⟨v', _, hr⟩ := hcell i v hi
  exact Lt.of hr h.dom
end
end Go.Proofs.Ytnmpgofhdjcpaaa.Eng
set_option linter.unusedVariables false
set_option linter.unusedSimpArgs false
namespace Go.Proofs.Ytnmpgofhdjcpaaa.Eng
open Go Go.RowKit
/-- What is known of a type. -/
structure TyD where
  und : TypeDesc
  size : Nat
  bytes : Nat
  zero : List Value
  fl : Bool
abbrev Ty := Nat → Option TyD
def aggD : TypeDesc → Bool | .struct _ | .array _ _ => true | _ => false
structure TyOk1 (P : Program) (t : Nat) (d : TyD) : Prop where
  und : P.underlying t = some d.und
  info : ∃ i v, P.info? t = some i ∧ i.size = d.size ∧ i.bytes = d.bytes ∧ i.zero = some v ∧ v.cells.toList = d.zero
  zlen : d.zero.length = d.size
  zflat : d.zero.all flatV = true
def TyOk (P : Program) (T : Ty) : Prop := ∀ t d, T t = some d → TyOk1 P t d
def cellsL : Value → List Value | .agg cs => cs.toList | v => [v]
theorem cellsL_eq (v : Value) : cellsL v = v.cells.toList := by cases v <;> rfl
theorem cells_rel {ι : Ren} {v v' : Value} (h : VRel ι v v') : LRel ι (cellsL v) (cellsL v') := by
  cases h <;> first | exact .cons (by constructor <;> assumption) (.nil ι) | skip
  case agg xs ys hl h => exact ⟨hl, h⟩
def ev (t : List Value) : Operand → Option Value
  | .tmp i => t[i]?
  | .const v => if flatV v = true then some v else none
  | .func f => some (.func (.func f) #[] #[])
  | .global _ => none
def evL (t : List Value) (x : Operand) : Option Value := match ev t x with | some v => if isDead v = true then none else some v | none => none
def TS (ι : Ren) (t : List Value) (tm : Array Value) : Prop := t.length = tm.size ∧ ∀ (i : Nat) (v v' : Value), t[i]? = some v → tm[i]? = some v' → TRel ι v v'
theorem TS.mono {ι ι' : Ren} (hm : ∀ id L, ι id = some L → ι' id = some L) {t : List Value} {tm : Array Value} (h : TS ι t tm) : TS ι' t tm := ⟨h.1, fun i v v' a b => (h.2 i v v' a b).mono hm⟩
theorem TS.put {ι : Ren} {t : List Value} {a : Act} (h : TS ι t a.tmps) (d : Option Tmp) {v v' : Value} (hv : TRel ι v v') : TS ι (match d with | some i => t.set i v | none => t) (a.put d v').tmps := by
  cases d with
  | none => exact h
  | some i =>
    refine ⟨by simp [Act.put, h.1], fun j u u' h1 h2 => ?_⟩
    simp only [Act.put, Array.getElem?_setIfInBounds] at h2
    rw [List.getElem?_set] at h1
    by_cases e : i = j
    · subst e; simp only [if_true] at h1 h2
      split at h1 <;> split at h2 <;> simp_all
    · simp only [e, if_false] at h1 h2; exact h.2 j u u' h1 h2
theorem ev_rel {ι : Ren} {t : List Value} {a : Act} (h : TS ι t a.tmps) {x : Operand} {v : Value} (hv : ev t x = some v) : TRel ι v (a.eval x) := by
  cases x with
  | tmp i =>
    simp only [ev] at hv
    have hlt : i < a.tmps.size := by
      have h1 : i < t.length := (List.getElem?_eq_some_iff.1 hv).1
      have h2 : t.length = a.tmps.size := h.1
      exact Nat.lt_of_lt_of_eq h1 h2
    have := h.2 i v a.tmps[i] hv (by simp [hlt])
    simp only [Act.eval, Array.getD_eq_getD_getElem?, Array.getElem?_eq_getElem hlt, Option.getD_some]; exact this
  | const c => simp only [ev] at hv; split at hv <;> simp at hv; subst hv; exact .inr (.flat (by assumption))
  | func f => simp only [ev] at hv; obtain rfl := Option.some.inj hv; exact .inr (.func f [] [] rfl (fun i v v' h => by simp at h))
  | global g => simp [ev] at hv
theorem evL_rel {ι : Ren} {t : List Value} {a : Act} (h : TS ι t a.tmps) {x : Operand} {v : Value} (hv : evL t x = some v) : VRel ι v (a.eval x) := by
  unfold evL at hv
  split at hv
  · rename_i u hu
    split at hv
    · simp at hv
    · rename_i hd; obtain rfl := Option.some.inj hv
      exact (ev_rel h hu).live (by simpa using hd)
  · simp at hv
def StepOk (w0 : World) (ι : Ren) (B : Nat) (H : Heap) (r : Result Next) (v : Value) (H' : Heap) : Prop :=
  ∃ nx v' w' ι', r = .ok nx w' ∧ (nx = .value v' ∨ (nx = .skip ∧ v' = undef)) ∧ HRel w0 ι' H' w' ∧ TRel ι' v v' ∧ Ext H.length ι ι' ∧ OCs B H H' ∧ H.length ≤ H'.length
theorem StepOk.pure {w0 w : World} {ι : Ren} {B : Nat} {H : Heap} (hH : HRel w0 ι H w) {r : Result Next} {v v' : Value} (h : r = .ok (.value v') w) (hv : TRel ι v v') : StepOk w0 ι B H r v H :=
  ⟨_, v', w, ι, h, .inl rfl, hH, hv, .refl _ _, .refl _ _, Nat.le_refl _⟩
section
variable {P : Program} {T : Ty} {w : World}
theorem TyOk.sizeOf (hT : TyOk P T) {t : Nat} {d : TyD} (h : T t = some d) : (sizeOf t).run P w = .ok d.size w := by
  obtain ⟨i, v, h1, h2, _⟩ := (hT t d h).info
  simp [Go.sizeOf, typeInfo, h1, h2]
theorem TyOk.underlying (hT : TyOk P T) {t : Nat} {d : TyD} (h : T t = some d) : (underlying t).run P w = .ok d.und w := run_underlying (hT t d h).und w
theorem TyOk.zeroValue (hT : TyOk P T) {t : Nat} {d : TyD} (h : T t = some d) : ∃ v, (zeroValue t).run P w = .ok v w ∧ v.cells.toList = d.zero := by
  obtain ⟨i, v, h1, h2, h3, h4, h5⟩ := (hT t d h).info
  exact ⟨v, by simp [Go.zeroValue, typeInfo, h1, h4], h5⟩
theorem TyOk.isAgg (hT : TyOk P T) {t : Nat} {d : TyD} (h : T t = some d) : (isAgg t).run P w = .ok (aggD d.und) w := by
  unfold Go.isAgg
  rw [Sem.run_bind, hT.underlying h]
  cases d.und <;> rfl
theorem TyOk.bytes (hT : TyOk P T) {t : Nat} {d : TyD} (h : T t = some d) : ∃ i, (typeInfo t).run P w = .ok i w ∧ i.bytes = d.bytes ∧ i.size = d.size := by
  obtain ⟨i, v, h1, h2, h3, _⟩ := (hT t d h).info
  exact ⟨i, by simp [typeInfo, h1], h3, h2⟩
end
def fillL (place : Nat → Option (Nat × Nat)) (cells : List Value) : List (Nat × Value) → Option (List Value)
  | [] => some cells
  | (i, v) :: rest =>
    match place i with
    | none => none
    | some (off, size) => if (cellsL v).length ≠ size ∨ off + (cellsL v).length > cells.length then none else fillL place (splice cells off (cellsL v)) rest
theorem foldl_set (vs : List Value) : ∀ (cells : Array Value) (off k : Nat), off + k + vs.length ≤ cells.size →
    ((vs.zipIdx k).foldl (fun (cs : Array Value) (p : Value × Nat) => cs.setIfInBounds (off + p.2) p.1) cells).toList = splice cells.toList (off + k) vs := by
  induction vs with
  | nil => intro cells off k h; simp [splice]
  | cons v vs ih =>
    intro cells off k h
    simp only [List.zipIdx_cons, List.foldl_cons, List.length_cons] at h ⊢
    rw [show k + 1 = 1 + k by omega] at *
    rw [ih _ off (1 + k) (by simp; omega)]
    simp only [splice, Array.toList_setIfInBounds, List.length_cons]
    apply List.ext_getElem?
    intro j
    simp only [List.getElem?_append, List.getElem?_take, List.getElem?_drop, List.getElem?_set, List.length_append, List.length_take, List.length_set, Array.length_toList, List.getElem?_cons]
    by_cases h1 : j < off + k
    · simp [h1, show j < off + (1 + k) by omega, show j < min (off + k) cells.size by omega, show j < min (off + (1 + k)) cells.size by omega, show j < min (off + (1 + k)) cells.size + vs.length by omega, show j < min (off + k) cells.size + (vs.length + 1) by omega, show ¬ off + k = j by omega]
    · by_cases h2 : j = off + k
      · subst h2
        simp [show min (off + k) cells.size = off + k by omega, show min (off + (1 + k)) cells.size = off + k + 1 by omega, show off + k < cells.size by omega, show off + k < off + (1 + k) by omega, show off + k < off + k + 1 + vs.length by omega]
      · by_cases h3 : j < off + k + 1 + vs.length
        · simp only [show min (off + k) cells.size = off + k by omega, show min (off + (1 + k)) cells.size = off + k + 1 by omega]
          simp [h1, show ¬ j < off + k + 1 by omega, show j < off + k + 1 + vs.length by omega, show j < off + k + (vs.length + 1) by omega, show ¬ j - (off + k) = 0 by omega, show j - (off + k) - 1 = j - (off + k + 1) by omega]
        · simp only [show min (off + k) cells.size = off + k by omega, show min (off + (1 + k)) cells.size = off + k + 1 by omega]
          simp [show ¬ j < off + k + 1 + vs.length by omega, show ¬ j < off + k + (vs.length + 1) by omega, show off + k + (vs.length + 1) + (j - (off + k + (vs.length + 1))) = j by omega, show off + (1 + k) + vs.length + (j - (off + k + 1 + vs.length)) = j by omega, show ¬ off + k = j by omega]
theorem fill_eq (place : Nat → Option (Nat × Nat)) : ∀ (parts : List (Nat × Value)) (cells : Array Value), Instr.fill place cells parts = (fillL place cells.toList parts).map List.toArray
  | [], cells => by simp [Instr.fill, fillL]
  | (i, v) :: rest, cells => by
    simp only [Instr.fill, fillL]
    cases hp : place i with
    | none => rfl
    | some q =>
      obtain ⟨off, size⟩ := q
      simp only [cellsL_eq, Array.length_toList]
      by_cases hc : v.cells.size ≠ size ∨ off + v.cells.size > cells.size
      · have : (v.cells.size ≠ size || off + v.cells.size > cells.size) = true := by simpa using hc
        simp [this, hc]
      · have : (v.cells.size ≠ size || off + v.cells.size > cells.size) = false := by simpa using hc
        rw [if_neg hc]
        simp only [this, Bool.false_eq_true, if_false]
        rw [fill_eq place rest]
        have e := foldl_set v.cells.toList cells off 0 (by simp at hc ⊢; omega)
        congr 2
        rw [← Array.foldl_toList, Array.toList_zipIdx]
        simpa using e
theorem LRel.splice {ι : Ren} {xs ys us vs : List Value} (h : LRel ι xs ys) (k : LRel ι us vs) (o : Nat) : LRel ι (Eng.splice xs o us) (Eng.splice ys o vs) := by
  unfold Eng.splice
  rw [k.1]
  exact ((h.take o).append k).append (h.drop _)
theorem fillL_rel {ι : Ren} (place : Nat → Option (Nat × Nat)) : ∀ (parts parts' : List (Nat × Value)) (cs cs' r : List Value), LRel ι cs cs' → parts.length = parts'.length →
    (∀ (j : Nat) p p', parts[j]? = some p → parts'[j]? = some p' → p.1 = p'.1 ∧ VRel ι p.2 p'.2) → fillL place cs parts = some r → ∃ r', fillL place cs' parts' = some r' ∧ LRel ι r r'
  | [], parts', cs, cs', r, hc, hl, _, h => by
    cases parts' with
    | nil => simp only [fillL, Option.some.injEq] at h ⊢; subst h; exact ⟨cs', rfl, hc⟩
    | cons _ _ => simp at hl
  | (i, v) :: rest, parts', cs, cs', r, hc, hl, hp, h => by
    cases parts' with
    | nil => simp at hl
    | cons p' rest' =>
      obtain ⟨i', v'⟩ := p'
      obtain ⟨e1, e2⟩ := hp 0 (i, v) (i', v') (by simp) (by simp)
      simp only at e1 e2; subst e1
      simp only [fillL] at h ⊢
      have hcl := (cells_rel e2).1
      cases hpl : place i with
      | none => simp [hpl] at h
      | some q =>
        obtain ⟨off, size⟩ := q
        simp only [hpl] at h ⊢
        rw [← hcl, ← hc.1]
        split at h
        · simp at h
        · rename_i hcond
          rw [if_neg hcond]
          exact fillL_rel place rest rest' _ _ r (hc.splice (cells_rel e2) off) (by simpa using hl) (fun j p p' h1 h2 => hp (j + 1) p p' (by simpa using h1) (by simpa using h2)) h
def offsL (T : Ty) : List Field → Option (List (Nat × Nat))
  | [] => some []
  | f :: r => match T f.type, offsL T r with | some d, some l => some ((f.offset, d.size) :: l) | _, _ => none
end Go.Proofs.Ytnmpgofhdjcpaaa.Eng
set_option linter.unusedVariables false
set_option linter.unusedSimpArgs false
namespace Go.Proofs.Ytnmpgofhdjcpaaa.Eng
open Go Go.RowKit
def intA (op : BinOp) (k : IntKind) (a b : Int) : Option Value :=
  match op with
  | .add => some (.int k (k.wrap (a + b)))
  | .sub => some (.int k (k.wrap (a - b)))
  | .mul => some (.int k (k.wrap (a * b)))
  | .quo => if b = 0 then none else some (.int k (k.wrap (a.tdiv b)))
  | .rem => if b = 0 then none else some (.int k (a.tmod b))
  | .eql => some (.bool (decide (a = b)))
  | .neq => some (.bool (decide (a ≠ b)))
  | .lss => some (.bool (decide (a < b)))
  | .leq => some (.bool (decide (a ≤ b)))
  | .gtr => some (.bool (decide (b < a)))
  | .geq => some (.bool (decide (b ≤ a)))
  | .and => some (.int k (k.wrap ((BitVec.ofInt k.bits a &&& BitVec.ofInt k.bits b).toNat)))
  | .or => some (.int k (k.wrap ((BitVec.ofInt k.bits a ||| BitVec.ofInt k.bits b).toNat)))
  | .xor => some (.int k (k.wrap ((BitVec.ofInt k.bits a ^^^ BitVec.ofInt k.bits b).toNat)))
  | _ => none
def shiftA (op : BinOp) (k : IntKind) (a b : Int) : Option Value :=
  if b < 0 then none else
  match op with
  | .shl => some (.int k (k.wrap (a * 2 ^ (min b.toNat k.bits))))
  | .shr => some (.int k (a.fdiv (2 ^ (min b.toNat k.bits))))
  | _ => none
def strA (op : BinOp) (a b : ByteArray) : Option Value :=
  match op with
  | .add => if a.size + b.size ≤ 9223372036854775807 then some (.string (a ++ b)) else none
  | .eql => some (.bool (decide (a = b)))
  | .neq => some (.bool (decide (a ≠ b)))
  | .lss => some (.bool (Op.bytesLess a.toList b.toList))
  | _ => none
def partL (T : Ty) (t : Nat) (cs : List Value) (off : Nat) : Option Value :=
  match T t with
  | some d => if aggD d.und = true then (if off + d.size ≤ cs.length then some (.agg ⟨(cs.drop off).take d.size⟩) else none) else cs[off]?
  | none => none
def eqFieldsA (T : Ty) (e : Nat → Value → Value → Option Bool) : List Field → List Value → List Value → Option Bool
  | [], _, _ => some true
  | f :: r, xs, ys => if f.name = "_" then none else
    match partL T f.type xs f.offset, partL T f.type ys f.offset with
    | some a, some b => match e f.type a b, eqFieldsA T e r xs ys with
      | some p, some q => some (p && q)
      | _, _ => none
    | _, _ => none
def eqA (T : Ty) (eqOk : Nat → Bool) : Nat → Nat → Value → Value → Option Bool
  | 0, _, _, _ => none
  | n + 1, t, x, y =>
    match T t with
    | none => none
    | some d => match d.und, x, y with
      | .bool, .bool a, .bool b => some (a == b)
      | .int _, .int k a, .int k' b => if k = k' then some (decide (a = b)) else none
      | .string, .string a, .string b => some (decide (a = b))
      | .struct fs, .agg xs, .agg ys => if eqOk t = true then eqFieldsA T (eqA T eqOk n) fs.toList xs.toList ys.toList else none
      | _, _, _ => none
def EqOk (P : Program) (eqOk : Nat → Bool) : Prop := ∀ t, eqOk t = true → P.stoodInHeld t = false ∧ P.eqGuardType P.depth t = false
def binA (T : Ty) (eqOk : Nat → Bool) (op : BinOp) (t : Nat) (x y : Value) : Option Value :=
  match op, x, y with
  | .shl, .int k a, .int _ b => shiftA .shl k a b
  | .shr, .int k a, .int _ b => shiftA .shr k a b
  | op, .int k a, .int k' b => if k = k' then intA op k a b else none
  | op, .string a, .string b => strA op a b
  | .eql, .bool a, .bool b => match T t with | some d => (match d.und with | .bool => some (.bool (a == b)) | _ => none) | none => none
  | .neq, .bool a, .bool b => match T t with | some d => (match d.und with | .bool => some (.bool (!(a == b))) | _ => none) | none => none
  | .eql, .agg xs, .agg ys => (eqA T eqOk 9 t (.agg xs) (.agg ys)).map .bool
  | .neq, .agg xs, .agg ys => (eqA T eqOk 9 t (.agg xs) (.agg ys)).map (fun b => .bool (!b))
  | .eql, .slice a _ _, .slice none _ _ => match T t with | some d => (match d.und with | .slice _ => some (.bool a.isNone) | _ => none) | none => none
  | .neq, .slice a _ _, .slice none _ _ => match T t with | some d => (match d.und with | .slice _ => some (.bool (!a.isNone)) | _ => none) | none => none
  | _, _, _ => none
def unA (op : UnOp) (x : Value) : Option Value :=
  match op, x with
  | .neg, .int k n => some (.int k (k.wrap (0 - n)))
  | .not, .bool b => some (.bool (!b))
  | _, _ => none
section
variable {P : Program} {T : Ty} {w : World}
theorem decide_beq (a b : ByteArray) : (a.toList == b.toList) = decide (a = b) := by
  rw [ByteArray.toList_eq, ByteArray.toList_eq]
  obtain ⟨⟨x⟩⟩ := a
  obtain ⟨⟨y⟩⟩ := b
  by_cases h : x = y
  · subst h; simp
  · have : ¬ (ByteArray.mk ⟨x⟩ = ByteArray.mk ⟨y⟩) := fun e => h (by injection e with e; injection e)
    simp [h, this]
theorem extract_list (xs : Array Value) (i n : Nat) : xs.extract i (i + n) = ⟨(xs.toList.drop i).take n⟩ := by
  apply Array.ext'
  rw [Array.toList_extract]
  simp [List.extract]
theorem part_run (hT : TyOk P T) {t off : Nat} {cs : List Value} {v : Value} (h : partL T t cs off = some v) : (part t ⟨cs⟩ off).run P w = .ok v w := by
  unfold partL at h
  split at h
  · rename_i d hd
    unfold part
    rw [Sem.run_bind, hT.isAgg hd]
    simp only [Result.andThen_ok]
    split at h
    · rename_i ha
      simp only [ha, if_true]
      split at h
      · obtain rfl := Option.some.inj h
        simp [hT.sizeOf hd, extract_list]
      · simp at h
    · rename_i ha
      have ha' : aggD d.und = false := by simpa using ha
      simp only [ha', Bool.false_eq_true, if_false]
      simp [h]
  · simp at h
theorem eqFields_run (hT : TyOk P T) {e : Nat → Value → Value → Option Bool} {d : Nat} (he : ∀ t a b r, e t a b = some r → (Op.equalIn d t a b).run P w = .ok r w) :
    ∀ (fs : List Field) (xs ys : List Value) (r : Bool), eqFieldsA T e fs xs ys = some r → (Op.eqFields d ⟨xs⟩ ⟨ys⟩ fs).run P w = .ok r w
  | [], xs, ys, r, h => by simp [eqFieldsA] at h; subst h; simp [Op.eqFields]
  | f :: fs, xs, ys, r, h => by
    simp only [eqFieldsA] at h
    split at h
    · simp at h
    · rename_i hn
      split at h
      · rename_i a b ha hb
        split at h
        · rename_i p q hp hq
          obtain rfl := Option.some.inj h
          rw [Op.eqFields, if_pos hn]
          simp only [Sem.run_bind, part_run hT ha, part_run hT hb, Result.andThen_ok, he _ _ _ _ hp]
          cases p
          · simp
          · simpa using eqFields_run hT he fs xs ys q hq
        · simp at h
      · simp at h
theorem eqA_run (hT : TyOk P T) {eqOk : Nat → Bool} (hE : EqOk P eqOk) : ∀ (n d t : Nat) (x y : Value) (r : Bool), n ≤ d → eqA T eqOk n t x y = some r → (Op.equalIn d t x y).run P w = .ok r w
  | 0, _, _, _, _, _, _, h => by simp [eqA] at h
  | n + 1, d, t, x, y, r, hd, h => by
    obtain ⟨d, rfl⟩ : ∃ e, d = e + 1 := ⟨d - 1, by omega⟩
    simp only [eqA] at h
    split at h
    · simp at h
    · rename_i td htd
      have hu := (hT t td htd).und
      split at h
      · rename_i e1; rw [e1] at hu; obtain rfl := Option.some.inj h; exact run_equalIn_bool' w d t _ _ hu
      · rename_i k0 k a k' b e1; rw [e1] at hu
        split at h
        · rename_i hk; subst hk; obtain rfl := Option.some.inj h
          rw [run_equalIn_int w d t k k0 a b hu]; rfl
        · simp at h
      · rename_i e1; rw [e1] at hu; obtain rfl := Option.some.inj h
        rw [run_equalIn_string w d t _ _ hu, decide_beq]
      · rename_i fs xs ys e1; rw [e1] at hu
        split at h
        · rename_i hok
          have hf : P.fieldsOf t = fs := by simp [Program.fieldsOf, hu]
          rw [run_equalIn_struct (P := P) w d t xs ys (by rw [hf]; exact hu) (hE t hok).1, hf]
          exact eqFields_run hT (fun t a b r h => eqA_run hT hE n d t a b r (by omega) h) fs.toList xs.toList ys.toList r h
        · simp at h
      · simp at h
theorem eqA_ok {eqOk : Nat → Bool} {n t : Nat} {xs ys : Array Value} {r : Bool} (he : eqA T eqOk (n + 1) t (.agg xs) (.agg ys) = some r) : eqOk t = true := by
  simp only [eqA] at he
  cases hT : T t with
  | none => simp [hT] at he
  | some d =>
    simp only [hT] at he
    obtain ⟨und, s, b, z, f⟩ := d
    cases und <;> simp at he
    exact he.1
theorem run_eq_slnil (w : World) (d : Nat) (t e : TypeId) (a : Option Addr) (n c n' c' : Nat) (h : P.underlying t = some (.slice e)) :
    (Op.equalIn (d + 1) t (.slice a n c) (.slice none n' c')).run P w = .ok a.isNone w := by
  cases a <;> simp [Op.equalIn, run_underlying h]
/-- An operator's answer, of the machine's own operands. -/
theorem binA_run (hT : TyOk P T) {eqOk : Nat → Bool} (hE : EqOk P eqOk) {op : BinOp} {t : Nat} {ox oy : Operand} {x y v : Value} (h : binA T eqOk op t x y = some v) :
    (do eqGuard op t ox oy x y; binOp op t x y : Sem Value).run P w = .ok v w ∧ flatV v = true := by
  unfold binA at h
  split at h
  · -- shl
    simp only [shiftA] at h
    split at h
    · simp at h
    · rename_i hb
      obtain rfl := Option.some.inj h
      simp [eqGuard, binOp, Op.shift, hb, flatV]
  · simp only [shiftA] at h
    split at h
    · simp at h
    · rename_i hb
      obtain rfl := Option.some.inj h
      simp [eqGuard, binOp, Op.shift, hb, flatV]
  · rename_i k a k' b n1 n2
    split at h
    · rename_i hk; subst hk
      unfold intA at h
      split at h <;> first | (simp at h; done) | skip
      all_goals (try (split at h <;> first | (simp at h; done) | skip))
      all_goals (obtain rfl := Option.some.inj h)
      all_goals (simp [eqGuard, binOp, Op.intArith, Op.intDiv, Op.intCmp, Op.intBits, flatV, *])
      all_goals (first | rfl | (by_cases hab : a = b <;> simp [hab]) | skip)
    · simp at h
  · rename_i a b
    unfold strA at h
    split at h <;> first | (simp at h; done) | skip
    · split at h
      · rename_i hs
        obtain rfl := Option.some.inj h
        have hm : ¬ (IntKind.i64.max < ((a.size : Int) + (b.size : Int))) := by simp [IntKind.max, IntKind.signed, IntKind.bits]; omega
        simp [eqGuard, binOp, Op.stringOp, hm, flatV]
        omega
      · simp at h
    · obtain rfl := Option.some.inj h
      simp [eqGuard, binOp, Op.stringOp, decide_beq, flatV]
    · obtain rfl := Option.some.inj h
      simp [eqGuard, binOp, Op.stringOp, decide_beq, flatV]
    · obtain rfl := Option.some.inj h
      simp [eqGuard, binOp, Op.stringOp, flatV]
  · rename_i a b
    split at h
    · rename_i d hd
      split at h
      · rename_i e1
        obtain rfl := Option.some.inj h
        have hu := (hT t d hd).und; rw [e1] at hu
        simp [eqGuard, binOp, Op.equal, Op.maxDepth, run_equalIn_bool' w 9999 t a b hu, flatV]
      · simp at h
    · simp at h
  · rename_i a b
    split at h
    · rename_i d hd
      split at h
      · rename_i e1
        obtain rfl := Option.some.inj h
        have hu := (hT t d hd).und; rw [e1] at hu
        simp [eqGuard, binOp, Op.equal, Op.maxDepth, run_equalIn_bool' w 9999 t a b hu, flatV]
      · simp at h
    · simp at h
  · rename_i xs ys
    cases he : eqA T eqOk 9 t (.agg xs) (.agg ys) with
    | none => simp [he] at h
    | some r =>
      simp only [he, Option.map_some, Option.some.injEq] at h; subst h
      have hr := eqA_run (w := w) hT hE 9 10000 t _ _ r (by omega) he
      have hg : P.eqGuardType P.depth t = false := (hE t (eqA_ok he)).2
      simp [eqGuard, binOp, Op.equal, Op.maxDepth, hr, hg, flatV]
  · rename_i xs ys
    cases he : eqA T eqOk 9 t (.agg xs) (.agg ys) with
    | none => simp [he] at h
    | some r =>
      simp only [he, Option.map_some, Option.some.injEq] at h; subst h
      have hr := eqA_run (w := w) hT hE 9 10000 t _ _ r (by omega) he
      have hg : P.eqGuardType P.depth t = false := (hE t (eqA_ok he)).2
      simp [eqGuard, binOp, Op.equal, Op.maxDepth, hr, hg, flatV]
  · rename_i a n c n' c'
    split at h
    · rename_i d hd
      split at h
      · rename_i el e1
        obtain rfl := Option.some.inj h
        have hu := (hT t d hd).und; rw [e1] at hu
        simp [eqGuard, binOp, Op.equal, Op.maxDepth, run_eq_slnil w 9999 t el a n c n' c' hu, flatV]
      · simp at h
    · simp at h
  · rename_i a n c n' c'
    split at h
    · rename_i d hd
      split at h
      · rename_i el e1
        obtain rfl := Option.some.inj h
        have hu := (hT t d hd).und; rw [e1] at hu
        simp [eqGuard, binOp, Op.equal, Op.maxDepth, run_eq_slnil w 9999 t el a n c n' c' hu, flatV]
      · simp at h
    · simp at h
  · simp at h
theorem unA_run {op : UnOp} {x v : Value} (h : unA op x = some v) : (Op.unary op x).run P w = .ok v w ∧ flatV v = true := by
  unfold unA at h
  split at h
  · obtain rfl := Option.some.inj h; simp [Op.unary, Op.intArith, flatV]
  · obtain rfl := Option.some.inj h; simp [Op.unary, flatV]
  · simp at h
end
end Go.Proofs.Ytnmpgofhdjcpaaa.Eng
set_option linter.unusedVariables false
set_option linter.unusedSimpArgs false
namespace Go.Proofs.Ytnmpgofhdjcpaaa.Eng
open Go Go.RowKit
def evParts (t : List Value) : List (Nat × Operand) → Option (List (Nat × Value))
  | [] => some []
  | (i, x) :: r => match evL t x, evParts t r with | some v, some l => some ((i, v) :: l) | _, _ => none
def evAllL (t : List Value) : List Operand → Option (List Value)
  | [] => some []
  | x :: r => match evL t x, evAllL t r with | some v, some l => some (v :: l) | _, _ => none
def newA (H : Heap) (b : Blk) : Option (Value × Heap) :=
  some (.pointer (some ⟨H.length, 0, none⟩), H ++ [some b])
def buildA (T : Ty) (ty : Nat) (parts : List (Nat × Value)) : Option Value :=
  match T ty with
  | some d => match d.und with
    | .struct fs => match offsL T fs.toList with
      | some pl => (fillL (fun i => pl[i]?) d.zero parts).map fun cs => .agg ⟨cs⟩
      | none => none
    | .array _ e => match T e with
      | some de => (fillL (fun i => some (i * de.size, de.size)) d.zero parts).map fun cs => .agg ⟨cs⟩
      | none => none
    | _ => none
  | none => none
/-- n elements that are zero. -/
def zerosL (z : List Value) : Nat → List Value
  | 0 => []
  | n + 1 => z ++ zerosL z n
def elemT (T : Ty) (ty : Nat) : Option (Nat × TyD) :=
  match T ty with
  | some d => match d.und with
    | .slice e => (T e).map fun de => (e, de)
    | _ => none
  | none => none
def buildSliceA (T : Ty) (ty len : Nat) (parts : List (Nat × Value)) (H : Heap) : Option (Value × Heap) :=
  match elemT T ty with
  | some (e, de) => if len * de.size ≤ 16777216 then
      match fillL (fun i => some (i * de.size, de.size)) (zerosL de.zero len) parts with
      | some cs => some (.slice (some ⟨H.length, 0, none⟩) len (len + 1), H ++ [some ⟨cs, de.size, true, de.fl && cs.all flatV⟩])
      | none => none
    else none
  | none => none
def makeSliceA (T : Ty) (ty : Nat) (l c : Value) (H : Heap) : Option (Value × Heap) :=
  match elemT T ty, l, c with
  | some (e, de), .int k n, .int k' m => if 0 ≤ n ∧ n = m ∧ (de.bytes : Int) * n ≤ 281474976710656 ∧ n ≤ 9223372036854775807 then
      some (.slice (some ⟨H.length, 0, none⟩) n.toNat (n.toNat + 1), H ++ [some ⟨zerosL de.zero n.toNat, de.size, true, de.fl⟩]) else none
  | _, _, _ => none
def loadVarA (T : Ty) (ty : Nat) (x : Value) (H : Heap) : Option Value :=
  match x, T ty with
  | .pointer (some a), some d => match loadA H a.block a.off (if aggD d.und = true then d.size else 1) with
    | some cs => if aggD d.und = true then some (.agg ⟨cs⟩) else cs[0]?
    | none => none
  | _, _ => none
def storeVarA (T : Ty) (B ty : Nat) (x y : Value) (H : Heap) : Option Heap :=
  match x, T ty with
  | .pointer (some a), some d => if (cellsL y).length = d.size then storeA B H a.block a.off (cellsL y) else none
  | _, _ => none
def fieldAtA (T : Ty) (ty : Nat) (x : Value) (f : Nat) : Option Value :=
  match x, T ty with
  | .pointer (some a), some d => match d.und with
    | .struct fs => match fs[f]? with
      | some fd => match T fd.type with
        | some df => if df.size = 0 then none else some (.pointer (some ⟨a.block, a.off + fd.offset, none⟩))
        | none => none
      | none => none
    | _ => none
  | _, _ => none
def fieldA (T : Ty) (ty : Nat) (x : Value) (f : Nat) : Option Value :=
  match x, T ty with
  | .agg cs, some d => match d.und with
    | .struct fs => match fs[f]? with
      | some fd => partL T fd.type cs.toList fd.offset
      | none => none
    | _ => none
  | _, _ => none
def indexAtA (T : Ty) (ty : Nat) (x i : Value) : Option Value :=
  match T ty, i with
  | some d, .int _ n => match d.und, x with
    | .array len e, .pointer (some a) => match T e with
      | some de => if 0 ≤ n ∧ n < (len : Int) then some (.pointer (some ⟨a.block, a.off + n.toNat * de.size, none⟩)) else none
      | none => none
    | .slice e, .slice (some a) len _ => match T e with
      | some de => if 0 ≤ n ∧ n < (len : Int) then some (.pointer (some ⟨a.block, a.off + n.toNat * de.size, none⟩)) else none
      | none => none
    | _, _ => none
  | _, _ => none
def indexA (T : Ty) (ty : Nat) (x i : Value) : Option Value :=
  match T ty, i with
  | some d, .int _ n => match d.und, x with
    | .array len e, .agg cs => match T e with
      | some de => if 0 ≤ n ∧ n < (len : Int) then partL T e cs.toList (n.toNat * de.size) else none
      | none => none
    | .string, .string s => if 0 ≤ n then (s.data.toList[n.toNat]?).map fun b => .int .u8 (b.toNat : Int) else none
    | _, _ => none
  | _, _ => none
/-- A cut: lo, hi, max as numbers. -/
def sliceA (T : Ty) (ty : Nat) (x : Value) (lo hi mx : Option Int) (H : Heap) : Option Value :=
  match T ty with
  | some d => match d.und, x with
    | .string, .string s =>
      if mx.isNone = true ∧ 0 ≤ lo.getD 0 ∧ lo.getD 0 ≤ hi.getD s.size ∧ hi.getD s.size ≤ (s.size : Int) then some (.string (s.extract (lo.getD 0).toNat (hi.getD s.size).toNat)) else none
    | .slice e, .slice none 0 0 => match T e with
      | some _ => if (lo.getD 0) = 0 ∧ (hi.getD 0) = 0 ∧ mx.isNone = true then some (.slice none 0 0) else none
      | none => none
    | .slice e, .slice (some a) n c => match T e, getB H a.block with
      | some de, some b => if b.sz = de.size then
        match mx with
        | none => if 0 ≤ lo.getD 0 ∧ lo.getD 0 ≤ hi.getD n ∧ (hi.getD n ≤ (n : Int) ∨ hi.getD n < (c : Int)) ∧ (c = 0 ∨ lo.getD 0 < (c : Int)) then
            some (.slice (some ⟨a.block, a.off + (lo.getD 0).toNat * de.size, none⟩) ((hi.getD n).toNat - (lo.getD 0).toNat) (c - (lo.getD 0).toNat)) else none
        | some m => if hi.isSome = true ∧ 0 ≤ lo.getD 0 ∧ lo.getD 0 ≤ hi.getD n ∧ hi.getD n ≤ m ∧ (m ≤ (n : Int) ∨ m < (c : Int)) then
            some (.slice (some ⟨a.block, a.off + (lo.getD 0).toNat * de.size, none⟩) ((hi.getD n).toNat - (lo.getD 0).toNat) (m.toNat - (lo.getD 0).toNat + 1)) else none
        else none
      | _, _ => none
    | _, _ => none
  | none => none
def convA (T : Ty) (s d : Nat) (x : Value) : Option Value :=
  match T s, T d, x with
  | some ds, some dd, .int _ n => match dd.und with | .int k => some (.int k (k.wrap n)) | _ => none
  | some ds, some dd, .string b => match dd.und with | .string => some (.string b) | _ => none
  | _, _, _ => none
def lenA (T : Ty) (ty : Nat) (x : Value) : Option Value :=
  match T ty with
  | some d => match d.und, x with
    | .string, .string s => some (.int .i64 s.size)
    | .array n _, _ => some (.int .i64 n)
    | .slice _, .slice _ n _ => some (.int .i64 n)
    | _, _ => none
  | none => none
def maxA : Value → List Value → Option Value
  | x, [] => some x
  | .int k x, .int _ y :: r => maxA (.int k (if y > x then y else x)) r
  | _, _ => none
def minA : Value → List Value → Option Value
  | x, [] => some x
  | .int k x, .int _ y :: r => minA (.int k (if y < x then y else x)) r
  | _, _ => none
/-- The cells of n elements of a slice. -/
def rowA (H : Heap) (size : Nat) : Value → Nat → Option (List Value)
  | .slice (some a) n c, m => if m ≤ n then loadA H a.block a.off (m * size) else none
  | .slice none 0 0, m => if m = 0 then some [] else none
  | _, _ => none
def appendA (T : Ty) (B ty ty2 : Nat) (s x : Value) (H : Heap) : Option (Value × Heap) :=
  if ty = ty2 then
    match elemT T ty, x with
    | some (e, de), .slice xa m xc =>
      if m = 0 then (match s with | .slice _ _ _ => some (s, H) | _ => none) else
      match rowA H de.size (.slice xa m xc) m with
      | none => none
      | some news =>
        let fl := de.fl
        match s with
        | .slice none 0 0 => if m * de.bytes ≤ 140737488355328 ∧ m ≤ 9223372036854775807 ∧ news.all (·.oneCell') = true then
            some (.slice (some ⟨H.length, 0, none⟩) m (m + 1), H ++ [some ⟨news, de.size, true, fl && news.all flatV⟩]) else none
        | .slice (some a) n c =>
          if (n + m) * de.bytes ≤ 140737488355328 ∧ n + m ≤ 9223372036854775807 ∧ news.all (·.oneCell') = true then
            match loadA H a.block a.off (n * de.size) with
            | none => none
            | some olds =>
              if c = 0 then some (.slice (some ⟨H.length, 0, none⟩) (n + m) (n + m + 1), H ++ [some ⟨olds ++ news, de.size, true, fl && (olds ++ news).all flatV⟩])
              else if n + m < c then (storeA B H a.block (a.off + n * de.size) news).map fun H' => (.slice (some a) (n + m) c, H')
              else match getB H a.block with
                | some b => if b.wr = true ∧ b.sz = de.size then
                    some (.slice (some ⟨H.length, 0, none⟩) (n + m) (n + m + 1), H.set a.block none ++ [some ⟨olds ++ news, de.size, true, fl && (olds ++ news).all flatV⟩]) else none
                | none => none
          else none
        | _ => none
    | _, _ => none
  else none
def copyA (T : Ty) (B ty : Nat) (d s : Value) (H : Heap) : Option (Value × Heap) :=
  match elemT T ty, d, s with
  | some (e, de), .slice da n _, .slice _ m _ =>
    if min m n = 0 then some (.int .i64 0, H) else
    match rowA H de.size s (min m n), da with
    | some cs, some a => (storeA B H a.block a.off cs).map fun H' => (.int .i64 ((min m n : Nat) : Int), H')
    | _, _ => none
  | _, _, _ => none
def clearA (T : Ty) (B ty : Nat) (x : Value) (H : Heap) : Option (Value × Heap) :=
  match elemT T ty, x with
  | some (e, de), .slice xa n _ => if n = 0 then some (undef, H) else
    match xa with
    | some a => (storeA B H a.block a.off (zerosL de.zero n)).map fun H' => (undef, H')
    | none => none
  | _, _ => none
def builtinA (T : Ty) (B : Nat) (b : Builtin) (tys : List Nat) (args : List Value) (H : Heap) : Option (Value × Heap) :=
  match b, tys, args with
  | .len, ty :: _, x :: _ => (lenA T ty x).map (·, H)
  | .max, _, x :: r => (maxA x r).map (·, H)
  | .min, _, x :: r => (minA x r).map (·, H)
  | .append, [t1, t2], [s, x] => appendA T B t1 t2 s x H
  | .copy, t1 :: _, [d, s] => copyA T B t1 d s H
  | .clear, [ty], [x] => clearA T B ty x H
  | _, _, _ => none
def optInt (t : List Value) : Option Operand → Option (Option Int)
  | none => some none
  | some x => match evL t x with | some (.int _ n) => some (some n) | _ => none
def opA (T : Ty) (eqOk : Nat → Bool) (B : Nat) (t : List Value) (H : Heap) (o : Oper) : Option (Value × Heap) :=
  match o.op with
  | .move x => (ev t x).map (·, H)
  | .assign x => (ev t x).map (·, H)
  | .pick c a b => match evL t c with
    | some (.bool q) => if q = true then (ev t a).map (·, H) else (ev t b).map (·, H)
    | _ => none
  | .alloc e => match T e with | some d => newA H ⟨d.zero, 0, true, d.fl⟩ | none => none
  | .box e x => match T e, evL t x with | some d, some v => newA H ⟨cellsL v, 0, true, d.fl && (cellsL v).all flatV⟩ | _, _ => none
  | .build ty parts => match evParts t parts.toList with | some l => (buildA T ty l).map (·, H) | none => none
  | .buildSlice ty len parts => match evParts t parts.toList with | some l => buildSliceA T ty len l H | none => none
  | .load ty x => match evL t x with | some v => (loadVarA T ty v H).map (·, H) | none => none
  | .store ty x y => match evL t x, evL t y with | some a, some v => (storeVarA T B ty a v H).map (undef, ·) | _, _ => none
  | .nilCheck x => match evL t x with | some (.pointer (some a)) => some (.pointer (some a), H) | some (.func f fs cs) => some (.func f fs cs, H) | _ => none
  | .binOp op ty x y _ => match evL t x, evL t y with | some a, some b => (binA T eqOk op ty a b).map (·, H) | _, _ => none
  | .unOp op _ x => match evL t x with | some a => (unA op a).map (·, H) | none => none
  | .convert s d x => match evL t x with | some a => (convA T s d a).map (·, H) | none => none
  | .makeFunc (.func f) first caps => if first.size = 0 then (evAllL t caps.toList).map fun l => (.func (.func f) #[] ⟨l⟩, H) else none
  | .makeSlice ty l c => match evL t l, evL t c with | some a, some b => makeSliceA T ty a b H | _, _ => none
  | .slice ty x lo hi mx => match evL t x, optInt t lo, optInt t hi, optInt t mx with
    | some v, some l, some h, some m => (sliceA T ty v l h m H).map (·, H)
    | _, _, _, _ => none
  | .fieldAddr ty x f => match evL t x with | some v => (fieldAtA T ty v f).map (·, H) | none => none
  | .field ty x f => match evL t x with | some v => (fieldA T ty v f).map (·, H) | none => none
  | .indexAddr ty x i => match evL t x, evL t i with | some v, some n => (indexAtA T ty v n).map (·, H) | _, _ => none
  | .index ty x i => match evL t x, evL t i with | some v, some n => (indexA T ty v n).map (·, H) | _, _ => none
  | .extract x i => match evL t x with | some (.tuple vs) => (vs.toList[i]?).map (·, H) | _ => none
  | .call ⟨.builtin b, args, tys⟩ => match evAllL t args.toList with | some l => builtinA T B b tys.toList l H | none => none
  | _ => none
end Go.Proofs.Ytnmpgofhdjcpaaa.Eng
set_option linter.unusedVariables false
set_option linter.unusedSimpArgs false
namespace Go.Proofs.Ytnmpgofhdjcpaaa.Eng
open Go Go.RowKit
section
variable {P : Program} {T : Ty} {w0 w : World} {ι : Ren} {H : Heap} {t : List Value} {a : Act} {B : Nat}
theorem HRel.cells (h : HRel w0 ι H w) {id o n : Nat} {vs : List Value} (hl : loadA H id o n = some vs) {L : Loc} (hi : ι id = some L) :
    ∃ vs' : List Value, vs'.length = n ∧ (∀ (j : Nat) (v : Value), vs'[j]? = some v → w.cell? ((⟨L.blk, L.off + o, none⟩ : Addr).add j) = some v) ∧ LRel ι vs vs' := by
  unfold loadA at hl
  split at hl
  · rename_i b hb
    split at hl
    · rename_i hn
      obtain rfl := Option.some.inj hl
      obtain ⟨c, e, fr, hc, ha, hb1, hs, hcell, hw⟩ := h.blk id L b hi (getB_eq.1 hb)
      have hlen : ((b.cells.drop o).take n).length = n := by simp; omega
      refine ⟨(c.toList.drop (L.off + o)).take n, by simp; omega, ?_, ?_, ?_⟩
      · intro j v hv
        have hj : j < n := by
          have := (List.getElem?_eq_some_iff.1 hv).1
          simp at this; omega
        rw [List.getElem?_take, if_pos hj, List.getElem?_drop] at hv
        rw [addr_add, cell_of_row w L.blk _ c e fr hc]
        simpa using hv
      · simp; omega
      · intro j v v' h1 h2
        have hj : j < n := by have := (List.getElem?_eq_some_iff.1 h1).1; omega
        rw [List.getElem?_take, if_pos hj, List.getElem?_drop] at h1 h2
        obtain ⟨u, k1, k2⟩ := hcell (o + j) v h1
        rw [show L.off + o + j = L.off + (o + j) by omega] at h2
        rw [Array.getElem?_toList, k1] at h2
        rw [← Option.some.inj h2]; exact k2
    · simp at hl
  · simp at hl
theorem loadA_length {id o n : Nat} {vs : List Value} (hl : loadA H id o n = some vs) : vs.length = n := by
  unfold loadA at hl
  split at hl
  · split at hl
    · obtain rfl := Option.some.inj hl; simp; omega
    · simp at hl
  · simp at hl
theorem evParts_rel (hs : TS ι t a.tmps) : ∀ (ps : List (Nat × Operand)) (l : List (Nat × Value)), evParts t ps = some l →
    (ps.map fun p => (p.1, a.eval p.2)).length = l.length ∧ ∀ (j : Nat) p p', l[j]? = some p → (ps.map fun p => (p.1, a.eval p.2))[j]? = some p' → p.1 = p'.1 ∧ VRel ι p.2 p'.2
  | [], l, h => by simp [evParts] at h; subst h; simp
  | (i, x) :: r, l, h => by
    simp only [evParts] at h
    split at h
    · rename_i v l' hv hl'
      obtain rfl := Option.some.inj h
      obtain ⟨e1, e2⟩ := evParts_rel hs r l' hl'
      refine ⟨by simpa using e1, fun j p p' h1 h2 => ?_⟩
      cases j with
      | zero => simp at h1 h2; subst h1; subst h2; exact ⟨rfl, evL_rel hs hv⟩
      | succ j => simp at h1 h2; exact e2 j p p' h1 (by simpa using h2)
    · simp at h
theorem evAllL_rel (hs : TS ι t a.tmps) : ∀ (xs : List Operand) (l : List Value), evAllL t xs = some l → LRel ι l (xs.map a.eval)
  | [], l, h => by simp [evAllL] at h; subst h; exact .nil ι
  | x :: r, l, h => by
    simp only [evAllL] at h
    split at h
    · rename_i v l' hv hl'
      obtain rfl := Option.some.inj h
      exact .cons (evL_rel hs hv) (evAllL_rel hs r l' hl')
    · simp at h
/-- A new variable. -/
theorem new_ok (hH : HRel w0 ι H w) (hB : B ≤ H.length) {b : Blk} {cs : List Value} {e : TypeId} (hc : LRel ι b.cells cs) (hf : b.fl = true → ∀ v ∈ b.cells, flatV v = true) {v : Value} {H' : Heap} (h : newA H b = some (v, H')) :
    StepOk w0 ι B H (.ok (.value (.pointer (some ⟨w.heap.size, 0, none⟩))) (w.alloc (.cells ⟨cs⟩ e))) v H' := by
  simp only [newA, Option.some.injEq, Prod.mk.injEq] at h
  obtain ⟨rfl, rfl⟩ := h
  have hp := hH.push b ⟨cs⟩ e (by simp [hc.1]) (fun j v hv => by obtain ⟨v', h1, h2⟩ := hc.get hv; exact ⟨v', by simpa using h1, h2⟩) hf
  refine ⟨_, _, _, _, rfl, .inl rfl, hp, .inr (.ptr _ _ ⟨w.heap.size, 0, cs.length, b.sz⟩ (by simp [upd])), upd_ext ι _ _, OCs.push B H _ hB, by simp⟩
theorem buildA_run (hT : TyOk P T) {ty : Nat} {parts : List (Nat × Value)} {parts' : Array (Nat × Value)} (hl : parts'.toList.length = parts.length)
    (hp : ∀ (j : Nat) p p', parts[j]? = some p → parts'.toList[j]? = some p' → p.1 = p'.1 ∧ VRel ι p.2 p'.2) {v : Value} (h : buildA T ty parts = some v) :
    ∃ v', (Instr.build ty parts').run P w = .ok v' w ∧ VRel ι v v' := by
  unfold buildA at h
  split at h
  · rename_i d hd
    obtain ⟨i, z, hi, hi1, hi2, hz, hzc⟩ := (hT ty d hd).info
    have hu := (hT ty d hd).und
    have hzr : LRel ι d.zero z.cells.toList := by rw [hzc]; exact LRel.flat (fun v hv => (List.all_eq_true.1 (hT ty d hd).zflat) v hv)
    split at h
    · rename_i fs hfs
      rw [hfs] at hu
      split at h
      · rename_i pl hpl
        cases hfl : fillL (fun i => pl[i]?) d.zero parts with
        | none => simp [hfl] at h
        | some cs =>
          simp only [hfl, Option.map_some, Option.some.injEq] at h; subst h
          obtain ⟨r', hr1, hr2⟩ := fillL_rel (fun i => pl[i]?) parts parts'.toList d.zero z.cells.toList cs hzr hl.symm hp hfl
          refine ⟨.agg ⟨r'⟩, run_build w ty parts' ⟨r'⟩ ?_, .agg _ _ hr2.1 hr2.2⟩
          unfold Program.built
          have hplaces : fs.toList.mapM (fun f => (P.info? f.type).map fun i => (f.offset, i.size)) = some pl := by
            clear hfl hr1 hr2 hu hfs
            generalize fs.toList = l at hpl ⊢
            induction l generalizing pl with
            | nil => simp [offsL] at hpl; subst hpl; simp
            | cons f l ih =>
              simp only [offsL] at hpl
              split at hpl
              · rename_i df l' hdf hl'
                obtain rfl := Option.some.inj hpl
                obtain ⟨i', z', g1, g2, _⟩ := (hT _ _ hdf).info
                simp [List.mapM_cons, g1, ih _ hl', g2]
              · simp at hpl
          simp only [hi, hu, hz, hplaces]
          rw [fill_eq]
          simp [hr1]
      · simp at h
    · rename_i n e hfs
      rw [hfs] at hu
      split at h
      · rename_i de hde
        obtain ⟨ie, ze, g1, g2, _⟩ := (hT e de hde).info
        cases hfl : fillL (fun i => some (i * de.size, de.size)) d.zero parts with
        | none => simp [hfl] at h
        | some cs =>
          simp only [hfl, Option.map_some, Option.some.injEq] at h; subst h
          obtain ⟨r', hr1, hr2⟩ := fillL_rel _ parts parts'.toList d.zero z.cells.toList cs hzr hl.symm hp hfl
          refine ⟨.agg ⟨r'⟩, run_build w ty parts' ⟨r'⟩ ?_, .agg _ _ hr2.1 hr2.2⟩
          unfold Program.built
          simp only [hi, hu, hz, g1, g2]
          rw [fill_eq]
          simp [hr1]
      · simp at h
    · simp at h
  · simp at h
theorem zerosL_length (z : List Value) (n : Nat) : (zerosL z n).length = n * z.length := by
  induction n with
  | zero => simp [zerosL]
  | succ n ih => simp [zerosL, ih, Nat.succ_mul, Nat.add_comm]
theorem zerosL_get (z : List Value) : ∀ (n j : Nat), j < n * z.length → (zerosL z n)[j]? = z[j % z.length]?
  | 0, j, h => by simp at h
  | n + 1, j, h => by
    simp only [zerosL]
    by_cases hj : j < z.length
    · rw [List.getElem?_append_left hj, Nat.mod_eq_of_lt hj]
    · have e : (n + 1) * z.length = n * z.length + z.length := Nat.succ_mul n _
      rw [List.getElem?_append_right (by omega), zerosL_get z n (j - z.length) (by omega)]
      congr 1
      exact (Nat.mod_eq_sub_mod (by omega)).symm
theorem zeros_range (z : Array Value) (n : Nat) : ((Array.range (n * z.size)).map fun i => z[i % z.size]!).toList = zerosL z.toList n := by
  apply List.ext_getElem?
  intro j
  by_cases hj : j < n * z.size
  · rw [zerosL_get _ _ _ (by simpa using hj)]
    have hm : j % z.size < z.size := Nat.mod_lt _ (Nat.pos_of_ne_zero fun h0 => by rw [h0] at hj; simp at hj)
    rw [Array.toList_map, List.getElem?_map, Array.toList_range, List.getElem?_range hj]
    simp [hm]
  · rw [List.getElem?_eq_none (by simp; omega), List.getElem?_eq_none (by rw [zerosL_length]; simp; omega)]
theorem zerosL_flat {z : List Value} (h : z.all flatV = true) (n : Nat) : ∀ v ∈ zerosL z n, flatV v = true := by
  induction n with
  | zero => simp [zerosL]
  | succ n ih => intro v hv; simp only [zerosL, List.mem_append] at hv; exact hv.elim (fun q => (List.all_eq_true.1 h) v q) (ih v)
theorem elemT_eq (hT : TyOk P T) {ty e : Nat} {de : TyD} (h : elemT T ty = some (e, de)) : P.underlying ty = some (.slice e) ∧ T e = some de := by
  unfold elemT at h
  split at h
  · rename_i d hd
    split at h
    · rename_i e' hu
      cases he : T e' with
      | none => simp [he] at h
      | some q => simp [he] at h; obtain ⟨rfl, rfl⟩ := h; exact ⟨by have := (hT ty d hd).und; rwa [hu] at this, he⟩
    · simp at h
  · simp at h
theorem buildSliceA_run (hT : TyOk P T) (hH : HRel w0 ι H w) (hB : B ≤ H.length) {ty len : Nat} {parts : List (Nat × Value)} {parts' : Array (Nat × Value)} (hl : parts'.toList.length = parts.length)
    (hp : ∀ (j : Nat) p p', parts[j]? = some p → parts'.toList[j]? = some p' → p.1 = p'.1 ∧ VRel ι p.2 p'.2) {v : Value} {H' : Heap} (h : buildSliceA T ty len parts H = some (v, H')) :
    StepOk w0 ι B H (((Instr.buildSlice ty len parts').run P w).andThen fun v w => .ok (.value v) w) v H' := by
  unfold buildSliceA at h
  split at h
  · rename_i e de he
    obtain ⟨hu, hde⟩ := elemT_eq hT he
    split at h
    · rename_i hsz
      split at h
      · rename_i cs hfl
        simp only [Option.some.injEq, Prod.mk.injEq] at h
        obtain ⟨rfl, rfl⟩ := h
        obtain ⟨z, hz, hzc⟩ := hT.zeroValue (w := w) hde
        have hzl := (hT e de hde).zlen
        have hzr : LRel ι (zerosL de.zero len) (zerosL de.zero len) := LRel.flat (zerosL_flat (hT e de hde).zflat len)
        obtain ⟨r', hr1, hr2⟩ := fillL_rel _ parts parts'.toList _ _ cs hzr hl.symm hp hfl
        have fin : ∀ zc : Array Value, ((Array.range (len * de.size)).map (fun x => zc[x % zc.size]!)).toList = zerosL de.zero len →
            (match Instr.fill (fun i => some (i * de.size, de.size)) ((Array.range (len * de.size)).map (fun x => zc[x % zc.size]!)) parts'.toList with
              | some cells => (do let a ← newRow e cells; pure (Value.slice (some a) len len) : Sem Value)
              | _ => stuck "buildSlice: a part of the wrong size").run P w = .ok (.slice (some ⟨w.heap.size, 0, none⟩) len len) (w.alloc (.cells ⟨r'⟩ e)) := fun zc hzc => by
          rw [fill_eq, hzc, hr1]; rfl
        have hrun : (Instr.buildSlice ty len parts').run P w = .ok (.slice (some ⟨w.heap.size, 0, none⟩) len len) (w.alloc (.cells ⟨r'⟩ e)) := by
          unfold Instr.buildSlice
          simp only [Sem.run_bind, run_underlying hu, Result.andThen_ok, hT.sizeOf hde]
          rw [if_neg (by simpa using hsz)]
          by_cases h0 : len * de.size = 0
          · rw [if_pos h0]
            simp only [pure_bind]
            refine fin #[] ?_
            rw [h0]; simp
            have : (zerosL de.zero len).length = 0 := by rw [zerosL_length, hzl]; exact h0
            exact List.eq_nil_of_length_eq_zero this
          · rw [if_neg h0]
            simp only [Sem.run_bind, hz, Result.andThen_ok, pure_bind]
            refine fin z.cells ?_
            have hs : z.cells.size = de.size := by rw [← hzl, ← hzc]; simp
            rw [← hs, ← hzc]
            exact zeros_range z.cells len
        rw [hrun]
        have hlen : cs.length = r'.length := hr2.1
        have hlr : r'.length = len * de.size := by
          have hk : ∀ (parts : List (Nat × Value)) (c r : List Value), fillL (fun i => some (i * de.size, de.size)) c parts = some r → r.length = c.length := by
            intro parts
            induction parts with
            | nil => intro c r h; simp [fillL] at h; rw [h]
            | cons p ps ih =>
              intro c r h
              obtain ⟨i, v⟩ := p
              simp only [fillL] at h
              split at h
              · simp at h
              · rename_i hc
                rw [ih _ _ h, splice_length (by simp at hc; omega)]
          rw [hk _ _ _ hr1, zerosL_length, hzl]
        have hp := hH.push ⟨cs, de.size, true, de.fl && cs.all flatV⟩ ⟨r'⟩ e (by simp [hlen]) (fun j v hv => by obtain ⟨v', h1, h2⟩ := hr2.get hv; exact ⟨v', by simpa using h1, h2⟩)
          (fun hf v hv => (List.all_eq_true.1 (by simp at hf; exact List.all_eq_true.2 hf.2)) v hv)
        refine ⟨_, _, _, _, rfl, .inl rfl, hp, .inr ?_, upd_ext ι _ _, OCs.push B H _ hB, by simp⟩
        refine .sl _ _ _ _ ⟨w.heap.size, 0, r'.length, de.size⟩ _ _ (by simp [upd]) (Nat.le_refl _) ?_ ?_ ?_ (.inl rfl)
        · omega
        · omega
        · simp [hlr]
      · simp at h
    · simp at h
  · simp at h
end
end Go.Proofs.Ytnmpgofhdjcpaaa.Eng
set_option linter.unusedVariables false
set_option linter.unusedSimpArgs false
namespace Go.Proofs.Ytnmpgofhdjcpaaa.Eng
open Go Go.RowKit
section
variable {P : Program} {T : Ty} {w0 w : World} {ι : Ren} {H : Heap} {t : List Value} {a : Act} {B : Nat}
theorem madeCells_list (z : Value) (n : Nat) : (madeCells z.cells (n * z.cells.size)).toList = zerosL z.cells.toList n := zeros_range z.cells n
theorem makeSliceA_run (hT : TyOk P T) (hH : HRel w0 ι H w) (hB : B ≤ H.length) {ty : Nat} {l c l' c' : Value} (hl : VRel ι l l') (hc : VRel ι c c') {v : Value} {H' : Heap} (h : makeSliceA T ty l c H = some (v, H')) :
    StepOk w0 ι B H (((Instr.makeSlice ty l' c').run P w).andThen fun v w => .ok (.value v) w) v H' := by
  unfold makeSliceA at h
  split at h
  · rename_i e de k n k' m he
    cases hl; cases hc
    split at h
    · rename_i hcond
      obtain ⟨h0, hnm, hby, h63⟩ := hcond
      subst hnm
      simp only [Option.some.injEq, Prod.mk.injEq] at h
      obtain ⟨rfl, rfl⟩ := h
      obtain ⟨hu, hde⟩ := elemT_eq hT he
      obtain ⟨i, z, g1, g2, g3, g4, g5⟩ := (hT e de hde).info
      have hzl := (hT e de hde).zlen
      have hs : z.cells.size = de.size := by rw [← hzl, ← g5]; simp
      rw [run_make w ty e i z hu g1 g4 k k' n n h0 (Int.le_refl _) (by rw [g3]; exact hby) h63]
      simp only [Result.andThen_ok]
      have hm : madeCells z.cells (n.toNat * i.size) = ⟨zerosL de.zero n.toNat⟩ := by
        apply Array.ext'
        rw [g2, ← hs, madeCells_list, g5]
      rw [hm]
      have hfl : ∀ v ∈ zerosL de.zero n.toNat, flatV v = true := zerosL_flat (hT e de hde).zflat _
      have hp := hH.push ⟨zerosL de.zero n.toNat, de.size, true, de.fl⟩ ⟨zerosL de.zero n.toNat⟩ e (by simp) (fun j v hv => ⟨v, by simpa using hv, .flat (hfl v (List.mem_of_getElem? hv))⟩) (fun _ => hfl)
      refine ⟨_, _, _, _, rfl, .inl rfl, hp, .inr ?_, upd_ext ι _ _, OCs.push B H _ hB, by simp⟩
      refine .sl _ _ _ _ ⟨w.heap.size, 0, (zerosL de.zero n.toNat).length, de.size⟩ _ _ (by simp [upd]) (Nat.le_refl _) ?_ ?_ ?_ (.inl rfl)
      · omega
      · omega
      · simp [zerosL_length, hzl]
    · simp at h
  · simp at h
theorem loadVarA_run (hT : TyOk P T) (hH : HRel w0 ι H w) {ty : Nat} {x x' v : Value} (hx : VRel ι x x') (h : loadVarA T ty x H = some v) :
    ∃ v', (Instr.loadAt ty x').run P w = .ok v' w ∧ VRel ι v v' := by
  unfold loadVarA at h
  split at h
  · rename_i ad d hd
    cases hx with
    | ptr b o L hL =>
      simp only at h
      split at h
      · rename_i cs hcs
        obtain ⟨vs', hlen, hcell, hrel⟩ := hH.cells hcs hL
        by_cases hagg : aggD d.und = true
        · simp only [hagg, if_true, Option.some.injEq] at h hcs hlen; subst h
          refine ⟨.agg ⟨vs'⟩, ?_, .agg _ _ hrel.1 hrel.2⟩
          have := run_loadCells_list (P := P) w ⟨L.blk, L.off + o, none⟩ vs' hcell
          rw [hlen] at this
          simp [Instr.loadAt, Instr.sureAddr, loadVar, hT.isAgg hd, hagg, hT.sizeOf hd, this]
        · have hagg' : aggD d.und = false := by simpa using hagg
          simp only [hagg', Bool.false_eq_true, if_false] at h hcs hlen
          obtain ⟨v', g1, g2⟩ := hrel.get h
          refine ⟨v', ?_, g2⟩
          have hc := hcell 0 v' g1
          simp only [addr_add, Nat.add_zero] at hc
          simp [Instr.loadAt, Instr.sureAddr, loadVar, hT.isAgg hd, hagg', hc]
      · simp at h
  · simp at h
theorem storeVarA_run (hT : TyOk P T) (hH : HRel w0 ι H w) {ty : Nat} {x x' y y' : Value} {H' : Heap} (hx : VRel ι x x') (hy : VRel ι y y') (h : storeVarA T B ty x y H = some H') :
    ∃ w', (Instr.storeAt ty x' y').run P w = .ok () w' ∧ HRel w0 ι H' w' ∧ OCs B H H' ∧ H'.length = H.length := by
  unfold storeVarA at h
  split at h
  · rename_i ad d hd
    cases hx with
    | ptr b o L hL =>
      simp only at h
      split at h
      · rename_i hsz
        have hcr := cells_rel hy
        obtain ⟨w', g1, g2⟩ := hH.store (P := P) h hL hcr
        refine ⟨w', ?_, g2⟩
        have hsz' : y'.cells.size = d.size := by rw [← hsz, hcr.1, cellsL_eq]; simp
        rw [cellsL_eq] at g1
        simp [Instr.storeAt, Instr.sureAddr, storeVar, hT.sizeOf hd, hsz', g1]
      · simp at h
  · simp at h
theorem fieldAtA_run (hT : TyOk P T) {ty f : Nat} {x x' v : Value} (hx : VRel ι x x') (h : fieldAtA T ty x f = some v) :
    ∃ v', (Instr.fieldAt ty x' f).run P w = .ok v' w ∧ VRel ι v v' := by
  unfold fieldAtA at h
  split at h
  · rename_i ad d hd
    cases hx with
    | ptr b o L hL =>
      split at h
      · rename_i fs hfs
        have hu := (hT ty d hd).und; rw [hfs] at hu
        split at h
        · rename_i fd hfd
          split at h
          · rename_i df hdf
            split at h
            · simp at h
            · rename_i hne
              obtain rfl := Option.some.inj h
              refine ⟨.pointer (some ⟨L.blk, L.off + (o + fd.offset), none⟩), ?_, .ptr _ _ L hL⟩
              simp [Instr.fieldAt, run_underlying hu, hfd, Instr.sureAddr, fieldPlace, hT.sizeOf hdf, hne, addr_add, Nat.add_assoc]
          · simp at h
        · simp at h
      · simp at h
  · simp at h
theorem partL_rel {ty off : Nat} {cs cs' : List Value} {v : Value} (hr : LRel ι cs cs') (h : partL T ty cs off = some v) : ∃ v', partL T ty cs' off = some v' ∧ VRel ι v v' := by
  unfold partL at h ⊢
  split at h
  · rename_i d hd
    split at h
    · rename_i ha
      simp only [ha, if_true]
      split at h
      · rename_i hc
        obtain rfl := Option.some.inj h
        rw [if_pos (by rw [← hr.1]; exact hc)]
        have q := (hr.drop off).take d.size
        exact ⟨_, rfl, .agg _ _ q.1 q.2⟩
      · simp at h
    · rename_i ha
      simp only [ha, if_false]
      exact hr.get h
  · simp at h
theorem fieldA_run (hT : TyOk P T) {ty f : Nat} {x x' v : Value} (hx : VRel ι x x') (h : fieldA T ty x f = some v) :
    ∃ v', (Instr.field ty x' f).run P w = .ok v' w ∧ VRel ι v v' := by
  unfold fieldA at h
  split at h
  · rename_i cs d hd
    cases hx with
    | agg xs ys hl hxy =>
      split at h
      · rename_i fs hfs
        have hu := (hT ty d hd).und; rw [hfs] at hu
        split at h
        · rename_i fd hfd
          obtain ⟨v', g1, g2⟩ := partL_rel (ι := ι) (T := T) ⟨hl, hxy⟩ h
          refine ⟨v', ?_, g2⟩
          simp [Instr.field, run_underlying hu, hfd, asAgg, part_run hT g1]
        · simp at h
      · simp at h
  · simp at h
theorem indexAtA_run (hT : TyOk P T) {ty : Nat} {x x' i i' v : Value} (hx : VRel ι x x') (hi : VRel ι i i') (h : indexAtA T ty x i = some v) :
    ∃ v', (Instr.indexAt ty x' i').run P w = .ok v' w ∧ VRel ι v v' := by
  unfold indexAtA at h
  split at h
  · rename_i d k n hd
    cases hi
    split at h
    · rename_i len e ad hu0
      have hu := (hT ty d hd).und; rw [hu0] at hu
      cases hx with
      | ptr b o L hL =>
        split at h
        · rename_i de hde
          split at h
          · rename_i hc
            obtain rfl := Option.some.inj h
            refine ⟨.pointer (some ⟨L.blk, L.off + (o + n.toNat * de.size), none⟩), ?_, .ptr _ _ L hL⟩
            simp [Instr.indexAt, asIntOf, run_underlying hu, Instr.sureAddr, hc, hT.sizeOf hde, addr_add, Nat.add_assoc]
          · simp at h
        · simp at h
    · rename_i e ad len c hu0
      have hu := (hT ty d hd).und; rw [hu0] at hu
      cases hx with
      | sl b o n1 c1 L a' c' hL hn hz hl hx ha =>
        split at h
        · rename_i de hde
          split at h
          · rename_i hc
            obtain rfl := Option.some.inj h
            have ha' : a' = ⟨L.blk, L.off + o, none⟩ := ha.resolve_right (by omega)
            subst ha'
            refine ⟨.pointer (some ⟨L.blk, L.off + (o + n.toNat * de.size), none⟩), ?_, .ptr _ _ L hL⟩
            simp [Instr.indexAt, asIntOf, run_underlying hu, hc, hT.sizeOf hde, addr_add, Nat.add_assoc]
          · simp at h
        · simp at h
    · simp at h
  · simp at h
theorem indexA_run (hT : TyOk P T) {ty : Nat} {x x' i i' v : Value} (hx : VRel ι x x') (hi : VRel ι i i') (h : indexA T ty x i = some v) :
    ∃ v', (Instr.index ty x' i').run P w = .ok v' w ∧ VRel ι v v' := by
  unfold indexA at h
  split at h
  · rename_i d k n hd
    cases hi
    split at h
    · rename_i len e cs hu0
      have hu := (hT ty d hd).und; rw [hu0] at hu
      cases hx with
      | agg xs ys hl hxy =>
        split at h
        · rename_i de hde
          split at h
          · rename_i hc
            obtain ⟨v', g1, g2⟩ := partL_rel (ι := ι) (T := T) ⟨hl, hxy⟩ h
            refine ⟨v', ?_, g2⟩
            simp [Instr.index, asIntOf, run_underlying hu, hc, hT.sizeOf hde, part_run hT g1]
          · simp at h
        · simp at h
    · rename_i s hu0
      have hu := (hT ty d hd).und; rw [hu0] at hu
      cases hx
      split at h
      · rename_i h0
        cases hb : s.data.toList[n.toNat]? with
        | none => simp [hb] at h
        | some b =>
          simp only [hb, Option.map_some, Option.some.injEq] at h; subst h
          have hb' : s[n.toNat]? = some b := by
            rw [Array.getElem?_toList] at hb
            obtain ⟨h1, h2⟩ := Array.getElem?_eq_some_iff.1 hb
            rw [getElem?_pos s n.toNat h1]
            exact congrArg some h2
          exact ⟨_, by simp [Instr.index, asIntOf, run_underlying hu, h0, hb'], .int _ _⟩
      · simp at h
    · simp at h
  · simp at h
theorem convA_run (hT : TyOk P T) {s d : Nat} {x x' v : Value} (hx : VRel ι x x') (h : convA T s d x = some v) :
    ∃ v', (convert s d x').run P w = .ok v' w ∧ VRel ι v v' := by
  unfold convA at h
  split at h
  · rename_i ds dd k n hs hd
    cases hx
    split at h
    · rename_i k' hu0
      obtain rfl := Option.some.inj h
      have hu := (hT d dd hd).und; rw [hu0] at hu
      have hus := (hT s ds hs).und
      refine ⟨_, ?_, .int _ _⟩
      cases hq : ds.und <;> rw [hq] at hus <;> simp [convert, run_underlying hus, run_underlying hu, Conv.intToInt]
    · simp at h
  · rename_i ds dd b hs hd
    cases hx
    split at h
    · rename_i hu0
      obtain rfl := Option.some.inj h
      have hu := (hT d dd hd).und; rw [hu0] at hu
      have hus := (hT s ds hs).und
      refine ⟨_, ?_, .str _⟩
      cases hq : ds.und <;> rw [hq] at hus <;> simp [convert, run_underlying hus, run_underlying hu]
    · simp at h
  · simp at h
theorem lenA_run (hT : TyOk P T) {ty : Nat} {x x' v : Value} {tys : Array TypeId} {rt : TypeId} {args' : Array Value} (hty : tys[0]? = some ty) (ha : args'[0]? = some x') (hx : VRel ι x x') (h : lenA T ty x = some v) :
    ∃ v', (Builtin.len_ tys rt args').run P w = .ok v' w ∧ VRel ι v v' := by
  unfold lenA at h
  split at h
  · rename_i d hd
    have hu := (hT ty d hd).und
    split at h
    · rename_i s hu0; rw [hu0] at hu; cases hx; obtain rfl := Option.some.inj h
      exact ⟨_, by simp [Builtin.len_, hty, ha, run_underlying hu, goInt], .int _ _⟩
    · rename_i n e hu0; rw [hu0] at hu; obtain rfl := Option.some.inj h
      exact ⟨_, by simp [Builtin.len_, hty, ha, run_underlying hu, goInt], .int _ _⟩
    · rename_i e b n c hu0; rw [hu0] at hu; obtain rfl := Option.some.inj h
      cases hx with
      | nilSl => exact ⟨_, by simp [Builtin.len_, hty, ha, run_underlying hu, goInt], .int _ _⟩
      | sl b o n1 c1 L a' c' hL hn hz hl hx ha1 => exact ⟨_, by simp [Builtin.len_, hty, ha, run_underlying hu, goInt], .int _ _⟩
    · simp at h
  · simp at h
theorem maxA_run : ∀ (r r' : List Value) (x x' v : Value), VRel ι x x' → LRel ι r r' → maxA x r = some v → ∃ v', (r'.foldlM Builtin.max2 x' : Sem Value).run P w = .ok v' w ∧ VRel ι v v'
  | [], r', x, x', v, hx, hr, h => by
    have : r' = [] := List.eq_nil_of_length_eq_zero (by have := hr.1; simpa using this.symm)
    subst this
    simp [maxA] at h; subst h; exact ⟨x', rfl, hx⟩
  | y :: r, r', x, x', v, hx, hr, h => by
    obtain ⟨y', r'', rfl, hy, hr'⟩ := hr.inv_cons
    unfold maxA at h
    split at h
    · simp_all
    · rename_i k a k' b r1 e
      injection e with e1 e2; subst e1; subst e2
      cases hx; cases hy
      obtain ⟨v', g1, g2⟩ := maxA_run r r'' _ _ v (.int k (if b > a then b else a)) hr' h
      exact ⟨v', by simpa [List.foldlM_cons, Builtin.max2] using g1, g2⟩
    · simp at h
theorem minA_run : ∀ (r r' : List Value) (x x' v : Value), VRel ι x x' → LRel ι r r' → minA x r = some v → ∃ v', (r'.foldlM Builtin.min2 x' : Sem Value).run P w = .ok v' w ∧ VRel ι v v'
  | [], r', x, x', v, hx, hr, h => by
    have : r' = [] := List.eq_nil_of_length_eq_zero (by have := hr.1; simpa using this.symm)
    subst this
    simp [minA] at h; subst h; exact ⟨x', rfl, hx⟩
  | y :: r, r', x, x', v, hx, hr, h => by
    obtain ⟨y', r'', rfl, hy, hr'⟩ := hr.inv_cons
    unfold minA at h
    split at h
    · simp_all
    · rename_i k a k' b r1 e
      injection e with e1 e2; subst e1; subst e2
      cases hx; cases hy
      obtain ⟨v', g1, g2⟩ := minA_run r r'' _ _ v (.int k (if b < a then b else a)) hr' h
      exact ⟨v', by simpa [List.foldlM_cons, Builtin.min2] using g1, g2⟩
    · simp at h
/-- The bounds of a cut as the machine has them. -/
theorem sliceBound_run {k : IntKind} {i : Int} {y : Nat} {code : BoundsCode} (h0 : 0 ≤ i) (h1 : i ≤ y) : (Instr.sliceBound (.int k i) y code).run P w = .ok i.toNat w := by
  simp [Instr.sliceBound, asIntOf, h0, h1]
end
end Go.Proofs.Ytnmpgofhdjcpaaa.Eng
set_option linter.unusedVariables false
set_option linter.unusedSimpArgs false
namespace Go.Proofs.Ytnmpgofhdjcpaaa.Eng
open Go Go.RowKit
section
variable {P : Program} {T : Ty} {w0 w : World} {ι : Ren} {H : Heap} {t : List Value} {a : Act} {B : Nat}
/-- What a bound of a cut is, in the machine's operands. -/
def IsInt (o : Option Int) (o' : Option Value) : Prop := match o, o' with
  | none, none => True
  | some n, some (.int _ m) => n = m
  | _, _ => False
theorem sliceBounds_run {isSlice : Bool} {len cap : Nat} {lo hi mx : Option Int} {lo' hi' mx' : Option Value} (h1 : IsInt lo lo') (h2 : IsInt hi hi') (h3 : IsInt mx mx')
    (hm : ∀ m, mx = some m → hi.isSome = true ∧ 0 ≤ m ∧ m ≤ (cap : Int) ∧ hi.getD len ≤ m) (h0 : 0 ≤ lo.getD 0) (hlh : lo.getD 0 ≤ hi.getD len) (hh : hi.getD len ≤ (cap : Int)) (hlen : mx = none → True) :
    (Instr.sliceBounds isSlice len cap lo' hi' mx').run P w = .ok ((lo.getD 0).toNat, (hi.getD len).toNat, (match mx with | none => cap | some m => m.toNat)) w := by
  cases mx with
  | none =>
    cases mx' with
    | some _ => simp [IsInt] at h3
    | none =>
      cases hi with
      | none =>
        cases hi' with
        | some _ => simp [IsInt] at h2
        | none =>
          cases lo with
          | none =>
            cases lo' with
            | some _ => simp [IsInt] at h1
            | none => simp [Instr.sliceBounds]
          | some l =>
            cases lo' with
            | none => simp [IsInt] at h1
            | some v =>
              cases v <;> simp [IsInt] at h1
              subst h1
              simp at hlh h0
              simp [Instr.sliceBounds, sliceBound_run h0 hlh]
      | some h =>
        cases hi' with
        | none => simp [IsInt] at h2
        | some v =>
          cases v <;> simp [IsInt] at h2
          subst h2
          simp only [Option.getD_some] at hlh hh
          have hh0 : 0 ≤ h := by omega
          cases lo with
          | none =>
            cases lo' with
            | some _ => simp [IsInt] at h1
            | none => simp [Instr.sliceBounds, sliceBound_run hh0 hh]
          | some l =>
            cases lo' with
            | none => simp [IsInt] at h1
            | some v =>
              cases v <;> simp [IsInt] at h1
              subst h1
              simp at hlh h0
              have hq : l ≤ ((h.toNat : Nat) : Int) := by omega
              simp [Instr.sliceBounds, sliceBound_run hh0 hh, sliceBound_run h0 hq]
  | some m =>
    obtain ⟨hs, hm0, hmc, hhm⟩ := hm m rfl
    cases mx' with
    | none => simp [IsInt] at h3
    | some v =>
      cases v <;> simp [IsInt] at h3
      subst h3
      cases hi with
      | none => simp at hs
      | some h =>
        cases hi' with
        | none => simp [IsInt] at h2
        | some v =>
          cases v <;> simp [IsInt] at h2
          subst h2
          simp only [Option.getD_some] at hlh hh hhm
          have hh0 : 0 ≤ h := by omega
          have hq2 : h ≤ ((m.toNat : Nat) : Int) := by omega
          cases lo with
          | none =>
            cases lo' with
            | some _ => simp [IsInt] at h1
            | none => simp [Instr.sliceBounds, sliceBound_run hm0 hmc, sliceBound_run hh0 hq2]
          | some l =>
            cases lo' with
            | none => simp [IsInt] at h1
            | some v =>
              cases v <;> simp [IsInt] at h1
              subst h1
              simp at hlh h0
              have hq : l ≤ ((h.toNat : Nat) : Int) := by omega
              simp [Instr.sliceBounds, sliceBound_run hm0 hmc, sliceBound_run hh0 hq2, sliceBound_run h0 hq]
theorem sliceA_run (hT : TyOk P T) (hH : HRel w0 ι H w) {ty : Nat} {x x' v : Value} {lo hi mx : Option Int} {lo' hi' mx' : Option Value} (h1 : IsInt lo lo') (h2 : IsInt hi hi') (h3 : IsInt mx mx') (hx : VRel ι x x') (h : sliceA T ty x lo hi mx H = some v) :
    ∃ v', (Instr.sliceAt ty x' lo' hi' mx').run P w = .ok v' w ∧ VRel ι v v' := by
  unfold sliceA at h
  split at h
  · rename_i d hd
    have hu := (hT ty d hd).und
    split at h
    · rename_i s hu0; rw [hu0] at hu; cases hx
      split at h
      · rename_i hc
        obtain ⟨c1, c2, c3, c4⟩ := hc
        obtain rfl := Option.some.inj h
        have hmx : mx = none := by simpa using c1
        subst hmx
        have hb := sliceBounds_run (P := P) (w := w) (isSlice := false) (len := s.size) (cap := s.size) h1 h2 h3 (fun m hm => by simp at hm) c2 c3 c4 (fun _ => trivial)
        have hmx' : mx' = none := by cases mx' with | none => rfl | some _ => simp [IsInt] at h3
        subst hmx'
        refine ⟨_, ?_, .str _⟩
        simp [Instr.sliceAt, Instr.slice, run_underlying hu, hb]
      · simp at h
    · rename_i e hu0; rw [hu0] at hu
      split at h
      · rename_i de hde
        split at h
        · rename_i hc
          obtain ⟨c1, c2, c3⟩ := hc
          obtain rfl := Option.some.inj h
          have hmx : mx = none := by simpa using c3
          subst hmx
          cases hx with
          | nilSl =>
            have hb := sliceBounds_run (P := P) (w := w) (isSlice := true) (len := 0) (cap := 0) h1 h2 h3 (fun m hm => by simp at hm) (by omega) (by simp [c1, c2]) (by simp [c2]) (fun _ => trivial)
            simp only [c1] at hb
            have c2' : hi.getD ((0 : Nat) : Int) = 0 := by simpa using c2
            rw [c2'] at hb
            refine ⟨.slice none 0 0, ?_, .nilSl⟩
            simp [Instr.sliceAt, Instr.slice, run_underlying hu, hb, hT.sizeOf hde]
        · simp at h
      · simp at h
    · rename_i e ad n c hu0; rw [hu0] at hu
      split at h
      · rename_i de b1 hde hb1
        cases hx with
        | sl b o n1 c1 L a' c' hL hn hz hl hxx ha =>
          simp only at h hb1
          split at h
          · rename_i hsz
            obtain ⟨_, _, _, _, _, _, hLs, _⟩ := hH.blk b L b1 hL (getB_eq.1 hb1)
            have hLsz : L.sz = de.size := hLs.trans hsz
            rw [hLsz] at hxx
            split at h
            · split at h
              · rename_i hc
                obtain ⟨q1, q2, q3, q4⟩ := hc
                obtain rfl := Option.some.inj h
                have hcap : hi.getD (n : Int) ≤ (c' : Int) := by omega
                have hb := sliceBounds_run (P := P) (w := w) (isSlice := true) (len := n) (cap := c') h1 h2 h3 (fun m hm => by simp at hm) q1 q2 hcap (fun _ => trivial)
                simp only at hb
                have hle : (lo.getD 0).toNat ≤ c' := by omega
                have hmul : o + (lo.getD 0).toNat * de.size + (c' - (lo.getD 0).toNat) * de.size ≤ L.avail := by
                  rw [Nat.add_assoc, ← Nat.add_mul]
                  have : (lo.getD 0).toNat + (c' - (lo.getD 0).toNat) = c' := by omega
                  rw [this]; exact hxx
                by_cases he : c' = (lo.getD 0).toNat
                · refine ⟨.slice (some a') ((hi.getD n).toNat - (lo.getD 0).toNat) (c' - (lo.getD 0).toNat), by simp only [Instr.sliceAt, Instr.slice, Sem.run_bind, run_underlying hu, hb, hT.sizeOf hde, Result.andThen_ok]; rw [if_pos he]; rfl, ?_⟩
                  exact .sl _ _ _ _ L _ _ hL (by omega) (by omega) (by omega) (by rw [hLsz]; exact hmul) (.inr (by omega))
                · refine ⟨.slice (some (a'.add ((lo.getD 0).toNat * de.size))) ((hi.getD n).toNat - (lo.getD 0).toNat) (c' - (lo.getD 0).toNat), by simp only [Instr.sliceAt, Instr.slice, Sem.run_bind, run_underlying hu, hb, hT.sizeOf hde, Result.andThen_ok]; rw [if_neg he]; rfl, ?_⟩
                  refine .sl _ _ _ _ L _ _ hL (by omega) (by omega) (by omega) (by rw [hLsz]; exact hmul) ?_
                  rcases ha with rfl | h0
                  · left; rw [addr_add, Nat.add_assoc]
                  · omega
              · simp at h
            · rename_i m
              split at h
              · rename_i hc
                obtain ⟨q0, q1, q2, q3, q4⟩ := hc
                obtain rfl := Option.some.inj h
                have hmc : m ≤ (c' : Int) := by omega
                have hcap : hi.getD (n : Int) ≤ (c' : Int) := by omega
                have hb := sliceBounds_run (P := P) (w := w) (isSlice := true) (len := n) (cap := c') h1 h2 h3 (fun m' hm => by obtain rfl := Option.some.inj hm; exact ⟨q0, by omega, hmc, q3⟩) q1 q2 hcap (fun _ => trivial)
                simp only at hb
                have hle : (lo.getD 0).toNat ≤ m.toNat := by omega
                have hmul : o + (lo.getD 0).toNat * de.size + (m.toNat - (lo.getD 0).toNat) * de.size ≤ L.avail := by
                  rw [Nat.add_assoc, ← Nat.add_mul]
                  have : (lo.getD 0).toNat + (m.toNat - (lo.getD 0).toNat) = m.toNat := by omega
                  rw [this]
                  have : m.toNat * de.size ≤ c' * de.size := Nat.mul_le_mul_right _ (by omega)
                  omega
                by_cases he : m.toNat = (lo.getD 0).toNat
                · refine ⟨.slice (some a') ((hi.getD n).toNat - (lo.getD 0).toNat) (m.toNat - (lo.getD 0).toNat), by simp only [Instr.sliceAt, Instr.slice, Sem.run_bind, run_underlying hu, hb, hT.sizeOf hde, Result.andThen_ok]; rw [if_pos he]; rfl, ?_⟩
                  exact .sl _ _ _ _ L _ _ hL (by omega) (by omega) (by omega) (by rw [hLsz]; exact hmul) (.inr (by omega))
                · refine ⟨.slice (some (a'.add ((lo.getD 0).toNat * de.size))) ((hi.getD n).toNat - (lo.getD 0).toNat) (m.toNat - (lo.getD 0).toNat), by simp only [Instr.sliceAt, Instr.slice, Sem.run_bind, run_underlying hu, hb, hT.sizeOf hde, Result.andThen_ok]; rw [if_neg he]; rfl, ?_⟩
                  refine .sl _ _ _ _ L _ _ hL (by omega) (by omega) (by omega) (by rw [hLsz]; exact hmul) ?_
                  rcases ha with rfl | h0
                  · left; rw [addr_add, Nat.add_assoc]
                  · omega
              · simp at h
          · simp at h
      · simp at h
    · simp at h
  · simp at h
end
end Go.Proofs.Ytnmpgofhdjcpaaa.Eng
set_option linter.unusedVariables false
set_option linter.unusedSimpArgs false
namespace Go.Proofs.Ytnmpgofhdjcpaaa.Eng
open Go Go.RowKit
section
variable {P : Program} {T : Ty} {w0 w : World} {ι : Ren} {H : Heap} {t : List Value} {a : Act} {B : Nat}
/-- A row that is not read any more. -/
theorem HRel.kill (h : HRel w0 ι H w) (id : Nat) : HRel w0 ι (H.set id none) w := by
  have old : ∀ (j : Nat) (b : Blk), (H.set id none)[j]? = some (some b) → H[j]? = some (some b) := fun j b hx => by
    rw [List.getElem?_set] at hx
    split at hx
    · split at hx <;> simp at hx
    · exact hx
  exact ⟨h.below, fun j L hj => by simpa using h.dom j L hj, fun j L b hj hb => h.blk j L b hj (old j b hb),
    fun i j L M b b2 hi hj hne h1 hw h2 => h.sep i j L M b b2 hi hj hne (old i b h1) hw (old j b2 h2),
    fun j b hb => h.flat j b (old j b hb), fun j b hb => h.tot j b (old j b hb), h.glob⟩
theorem rowA_rel (hH : HRel w0 ι H w) {size m : Nat} {x x' : Value} {cs : List Value} (hx : VRel ι x x') (h : rowA H size x m = some cs) :
    ∃ cs', LRel ι cs cs' ∧ cs.length = m * size ∧ (Builtin.firstCells size m x').run P w = .ok ⟨cs'⟩ w := by
  unfold rowA at h
  split at h
  · rename_i ad n c
    split at h
    · rename_i hm
      cases hx with
      | sl b o n1 c1 L a' c' hL hn hz hl hxx ha =>
        obtain ⟨vs', g1, g2, g3⟩ := hH.cells h hL
        have hlen := loadA_length h
        refine ⟨vs', g3, hlen, ?_⟩
        rcases ha with rfl | h0
        · exact run_firstCells_some w size m _ n c' vs' g1 g2
        · have hm0 : m = 0 := by omega
          subst hm0
          have : vs' = [] := List.eq_nil_of_length_eq_zero (by simpa using g1)
          subst this
          exact run_firstCells_some w size 0 _ n c' [] (by simp) (fun j v hv => by simp at hv)
    · simp at h
  · split at h
    · rename_i hm; subst hm
      obtain rfl := Option.some.inj h
      cases hx
      exact ⟨[], .nil ι, by simp, run_firstCells_none w size 0 0 0⟩
    · simp at h
  · simp at h
theorem one_of {xs ys : List Value} (hr : LRel ι xs ys) (h : xs.all (·.oneCell') = true) : ∀ v ∈ ys, v.oneCell' = true := fun v hv => by
  obtain ⟨i, hi⟩ := List.mem_iff_getElem?.1 hv
  have hlt : i < xs.length := by have := (List.getElem?_eq_some_iff.1 hi).1; have := hr.1; omega
  have := hr.2 i xs[i] v (by simp [hlt]) hi
  rw [oneCell_rel this]
  exact (List.all_eq_true.1 h) _ (List.getElem_mem hlt)
/-- A grown row in a new block. -/
theorem grow_ok (hH : HRel w0 ι H w) (hB : B ≤ H.length) {H1 : Heap} (hlen1 : H1.length = H.length) (hH1 : HRel w0 ι H1 w.drew) (hoc : OCs B H H1) {e : TypeId} {size n : Nat} {cs cs' : List Value} {tail : Array Value} {fl : Bool}
    (hc : LRel ι cs cs') (hl : cs.length = n * size) {cap : Nat} (hcap : n ≤ cap) (hn0 : n ≠ 0) (ht : tail.size = (cap - n) * size) (hfl : fl = true → ∀ v ∈ cs, flatV v = true) {r : Result Next}
    (hr : r = .ok (.value (.slice (some ⟨w.heap.size, 0, none⟩) n cap)) (w.drew.alloc (.cells (cs'.toArray ++ tail) e))) :
    StepOk w0 ι B H r (.slice (some ⟨H.length, 0, none⟩) n (n + 1)) (H1 ++ [some ⟨cs, size, true, fl⟩]) := by
  have hp := hH1.push ⟨cs, size, true, fl⟩ (cs'.toArray ++ tail) e (by simp; have := hc.1; omega) (fun j v hv => by
    obtain ⟨v', h1, h2⟩ := hc.get hv
    refine ⟨v', ?_, h2⟩
    have : j < cs'.length := (List.getElem?_eq_some_iff.1 h1).1
    rw [Array.getElem?_append_left (by simpa using this)]
    simpa using h1) hfl
  rw [hlen1] at hp
  refine ⟨_, _, _, _, hr, .inl rfl, hp, .inr ?_, upd_ext ι _ _, hoc.trans (OCs.push B H1 _ (by omega)), by simp; omega⟩
  refine .sl _ _ _ _ ⟨w.heap.size, 0, (cs'.toArray ++ tail).size, size⟩ _ _ (by simp [upd]) hcap (by omega) (by omega) ?_ (.inl rfl)
  have : cs'.length = n * size := by rw [← hc.1, hl]
  simp only [Array.size_append, List.size_toArray, this, ht, ← Nat.add_mul, Nat.zero_add]
  rw [show n + (cap - n) = cap by omega]
  exact Nat.le_refl _
theorem append_zero (hT : TyOk P T) {t1 e : Nat} {de : TyD} {ty : TypeId} (hu : P.underlying t1 = some (.slice e)) (hde : T e = some de) {s' x' : Value}
    (hs : (∃ a n c, s' = .slice (some a) n c ∧ n ≤ c) ∨ s' = .slice none 0 0) (hx : (∃ a c, x' = .slice a 0 c)) :
    (Builtin.append_ #[t1, t1] ty #[s', x']).run P w = .ok s' w := by
  obtain ⟨ax, cx, rfl⟩ := hx
  have hf : (Builtin.firstCells de.size 0 (.slice ax 0 cx)).run P w = .ok #[] w := by
    cases ax with
    | none => exact run_firstCells_none w _ _ _ _
    | some ad => exact run_firstCells_some w _ 0 ad 0 cx [] (by simp) (fun j v hv => by simp at hv)
  rcases hs with ⟨a, n, c, rfl, hn⟩ | rfl
  · simp [Builtin.append_, run_underlying hu, hT.sizeOf hde, Builtin.lenOf, hn, hf, storeCells]
  · simp [Builtin.append_, run_underlying hu, hT.sizeOf hde, Builtin.lenOf, hf]
theorem appendA_run (hT : TyOk P T) (hH : HRel w0 ι H w) (hB : B ≤ H.length) {t1 t2 : Nat} {s s' x x' v : Value} {ty : TypeId} {H' : Heap} (hs : VRel ι s s') (hx : VRel ι x x') (h : appendA T B t1 t2 s x H = some (v, H')) :
    StepOk w0 ι B H (((Builtin.append_ #[t1, t2] ty #[s', x']).run P w).andThen fun v w => .ok (.value v) w) v H' := by
  unfold appendA at h
  split at h
  · rename_i ht; subst ht
    split at h
    · rename_i e de xa m xc he
      obtain ⟨hu, hde⟩ := elemT_eq hT he
      obtain ⟨i, z, g1, g2, g3, g4, g5⟩ := (hT e de hde).info
      have hzl := (hT e de hde).zlen
      have hzs : z.cells.size = de.size := by rw [← hzl, ← g5]; simp
      split at h
      · rename_i hm0; subst hm0
        split at h
        · rename_i sa sn sc
          simp only [Option.some.injEq, Prod.mk.injEq] at h
          obtain ⟨rfl, rfl⟩ := h
          have hr := append_zero (P := P) (w := w) hT (ty := ty) hu hde (s' := s') (x' := x') (by
            cases hs with
            | nilSl => exact .inr rfl
            | sl b o n c L a' c' hL hn => exact .inl ⟨a', _, _, rfl, hn⟩) (by cases hx <;> exact ⟨_, _, rfl⟩)
          rw [hr]
          exact StepOk.pure hH rfl (.inr hs)
        · simp at h
      · rename_i hm0
        split at h
        · simp at h
        · rename_i news hnews
          have hnc : ∃ ad, xa = some ad := by cases xa with
            | none => cases hx; simp at hm0
            | some ad => exact ⟨ad, rfl⟩
          obtain ⟨ad, rfl⟩ := hnc
          cases hx with
          | sl b2 o2 n2 c2 L2 a2 c2' hL2 hn2 hz2 hl2 hxx2 ha2 =>
          have ha2' := ha2.resolve_right (by omega)
          subst ha2'
          simp only [rowA] at hnews
          rw [if_pos (Nat.le_refl _)] at hnews
          obtain ⟨news2, q1, q2, q3⟩ := hH.cells hnews hL2
          have hnl := loadA_length hnews
          simp only at h
          split at h
          · -- nothing yet
            split at h
            · rename_i hc
              obtain ⟨k1, k2, k3⟩ := hc
              simp only [Option.some.injEq, Prod.mk.injEq] at h
              obtain ⟨rfl, rfl⟩ := h
              cases hs
              have hr := run_append_nil (P := P) w t1 ty e i z hu g1 g4 _ m c2' news2 (by rw [g2]; exact q1) q2 (by omega) (by omega) (by rw [g3]; omega)
              rw [hr]
              refine grow_ok hH hB rfl (hH.drewW _ (Nat.le_succ _)) (.refl _ _) q3 hnl (grownCap_ge w m 0 e) hm0 ?_ (fun hf v hv => ?_) rfl
              · simp [size_zeroCells, hzs]
              · simp only [Bool.and_eq_true] at hf
                exact (List.all_eq_true.1 hf.2) v hv
            · simp at h
          · rename_i sa n c
            split at h
            · rename_i hc
              obtain ⟨k1, k2, k3⟩ := hc
              split at h
              · simp at h
              · rename_i olds holds
                cases hs with
                | sl b o n1 c1 L a' c' hL hn hz hl hxx ha =>
                obtain ⟨olds2, p1, p2, p3⟩ := hH.cells holds hL
                have hol := loadA_length holds
                have hlen2 : (olds ++ news).length = (n + m) * de.size := by rw [List.length_append, hol, hnl, Nat.add_mul]
                have hfla : ∀ fl, (fl && (olds ++ news).all flatV) = true → ∀ v ∈ olds ++ news, flatV v = true := fun fl hf v hv => by
                  simp only [Bool.and_eq_true] at hf
                  exact (List.all_eq_true.1 hf.2) v hv
                have hgrow : c' < n + m → ∀ (H1 : Heap), H1.length = H.length → HRel w0 ι H1 w.drew → OCs B H H1 →
                    StepOk w0 ι B H (((Builtin.append_ #[t1, t1] ty #[.slice (some a') n c', .slice (some ⟨L2.blk, L2.off + o2, none⟩) m c2']).run P w).andThen fun v w => .ok (.value v) w)
                      (.slice (some ⟨H.length, 0, none⟩) (n + m) (n + m + 1)) (H1 ++ [some ⟨olds ++ news, de.size, true, de.fl && (olds ++ news).all flatV⟩]) := by
                  intro hg H1 e1 e2 e3
                  have hho : ∀ j v, olds2[j]? = some v → w.cell? (a'.add j) = some v := by
                    rcases ha with rfl | h0
                    · exact p2
                    · have : n = 0 := by omega
                      subst this
                      have : olds2 = [] := List.eq_nil_of_length_eq_zero (by simpa using p1)
                      subst this
                      intro j v hv; simp at hv
                  have hr := run_append_grow (P := P) w t1 ty e i z hu g1 g4 a' n c' olds2 (by rw [g2]; exact p1) hho _ m c2' news2 (by rw [g2]; exact q1) q2 hg (by omega) (by rw [g3]; exact growslice_fits hg k1)
                  rw [hr]
                  refine grow_ok hH hB e1 e2 e3 (p3.append q3) hlen2 (grownCap_ge w (n + m) c' e) (by omega) ?_ (hfla de.fl) ?_ (tail := Builtin.zeroCells z.cells (grownCap w (n + m) c' e - (n + m))) (e := e)
                  · simp [size_zeroCells, hzs]
                  · simp
                split at h
                · rename_i hc0; subst hc0
                  simp only [Option.some.injEq, Prod.mk.injEq] at h
                  obtain ⟨rfl, rfl⟩ := h
                  have : c' = 0 := hz rfl
                  subst this
                  exact hgrow (by omega) H rfl (hH.drewW _ (Nat.le_succ _)) (.refl _ _)
                · rename_i hc0
                  have hroomrun : n + m ≤ c' → a' = ⟨L.blk, L.off + o, none⟩ := fun hg => ha.resolve_right (by omega)
                  split at h
                  · rename_i hlt
                    cases hst : storeA B H b (o + n * de.size) news with
                    | none => simp [hst] at h
                    | some H2 =>
                      simp only [hst, Option.map_some, Option.some.injEq, Prod.mk.injEq] at h
                      obtain ⟨rfl, rfl⟩ := h
                      obtain ⟨w', r1, r2, r3, r4⟩ := hH.store (P := P) hst hL q3
                      have hg : n + m ≤ c' := by omega
                      have := hroomrun hg; subst this
                      have hf := run_firstCells_some (P := P) w de.size m ⟨L2.blk, L2.off + o2, none⟩ m c2' news2 q1 q2
                      have hr : (Builtin.append_ #[t1, t1] ty #[.slice (some ⟨L.blk, L.off + o, none⟩) n c', .slice (some ⟨L2.blk, L2.off + o2, none⟩) m c2']).run P w = .ok (.slice (some ⟨L.blk, L.off + o, none⟩) (n + m) c') w' := by
                        simp [Builtin.append_, run_underlying hu, hT.sizeOf hde, Builtin.lenOf, hg, hf, addr_add, Nat.add_assoc, r1]
                      rw [hr]
                      exact ⟨_, _, _, ι, rfl, .inl rfl, r2, .inr (.sl _ _ _ _ L _ _ hL hg hz hl hxx (.inl rfl)), .refl _ _, r3, by omega⟩
                  · rename_i hge
                    split at h
                    · rename_i bk hbk
                      split at h
                      · rename_i hw
                        obtain ⟨hwr, hsz⟩ := hw
                        simp only [Option.some.injEq, Prod.mk.injEq] at h
                        obtain ⟨rfl, rfl⟩ := h
                        have hbk0 := getB_eq.1 hbk
                        by_cases hg : n + m ≤ c'
                        · have := hroomrun hg; subst this
                          obtain ⟨c, e0, fr, hc, hav, hbl, hLs, hcell, hwo⟩ := hH.blk b L bk hL hbk0
                          obtain ⟨hold, rfl⟩ := hwo hwr
                          have hLd : L.sz = de.size := hLs.trans hsz
                          rw [hLd] at hxx
                          have hmul : (n + m) * de.size ≤ c' * de.size := Nat.mul_le_mul_right _ hg
                          have hmul2 : (n + m) * de.size = n * de.size + m * de.size := Nat.add_mul _ _ _
                          have hf := run_firstCells_some (P := P) w de.size m ⟨L2.blk, L2.off + o2, none⟩ m c2' news2 q1 q2
                          have hst := run_storeCells_at P L.blk (L.off + o + n * de.size) e0 news2 0 c w hc (by rw [q1]; omega) (one_of q3 k3)
                          have hr : (Builtin.append_ #[t1, t1] ty #[.slice (some ⟨L.blk, L.off + o, none⟩) n c', .slice (some ⟨L2.blk, L2.off + o2, none⟩) m c2']).run P w = .ok (.slice (some ⟨L.blk, L.off + o, none⟩) (n + m) c')
                              (w.setRow L.blk (c.toList.take (L.off + o + n * de.size + 0) ++ news2 ++ c.toList.drop (L.off + o + n * de.size + 0 + news2.length)).toArray) := by
                            simp only [Nat.add_zero] at hst ⊢
                            simp [Builtin.append_, run_underlying hu, hT.sizeOf hde, Builtin.lenOf, hg, hf, addr_add, hst]
                          rw [hr]
                          have hrel := p3.append q3
                          have hcs : c.size = c.toList.length := rfl
                          have hrg := hH.regrow (o := o) (b' := ⟨olds ++ news, de.size, true, de.fl && (olds ++ news).all flatV⟩) (c' := (c.toList.take (L.off + o + n * de.size + 0) ++ news2 ++ c.toList.drop (L.off + o + n * de.size + 0 + news2.length)).toArray) hL hbk0 hwr (by omega) hLd.symm (by simp only; rw [hlen2]; omega) (hfla de.fl)
                            ⟨c, e0, hc, rfl, by simp [q1]; omega⟩ (fun j v hv => by
                              obtain ⟨v', h1, h2⟩ := hrel.get hv
                              refine ⟨v', ?_, h2⟩
                              by_cases hj : j < n * de.size
                              · rw [List.getElem?_append_left (by rw [p1]; exact hj)] at h1
                                have h1' := p2 j v' h1
                                rw [addr_add, cell_of_row w L.blk _ c e0 (0, 0) hc] at h1'
                                rw [List.getElem?_toArray, List.getElem?_append_left (by simp [q1]; omega), List.getElem?_append_left (by simp; omega), List.getElem?_take, if_pos (by omega)]
                                simpa using h1'
                              · rw [List.getElem?_append_right (by rw [p1]; omega), p1] at h1
                                have hj2 : j - n * de.size < m * de.size := by have := (List.getElem?_eq_some_iff.1 h1).1; rw [q1] at this; exact this
                                rw [List.getElem?_toArray, List.getElem?_append_left (by simp [q1]; omega), List.getElem?_append_right (by simp; omega)]
                                simp only [List.length_take, ← hcs]
                                rw [show L.off + o + j - min (L.off + o + n * de.size + 0) c.size = j - n * de.size by omega]
                                exact h1)
                          refine ⟨_, _, _, _, rfl, .inl rfl, hrg, .inr ?_, upd_ext ι _ _, (OCs.kill B H b).trans (OCs.push B _ _ (by simpa using hB)), by simp⟩
                          refine .sl _ _ _ _ ⟨L.blk, L.off + o, L.avail - o, L.sz⟩ _ _ (by simp [upd]) hg (by omega) (by omega) ?_ (.inl (by simp))
                          simp only [hLd]; omega
                        · exact hgrow (by omega) (H.set b none) (by simp) ((hH.drewW _ (Nat.le_succ _)).kill b) (OCs.kill B H b)
                      · simp at h
                    · simp at h
            · simp at h
          · simp at h
    · simp at h
  · simp at h
theorem copyA_run (hT : TyOk P T) (hH : HRel w0 ι H w) (hB : B ≤ H.length) {t1 : Nat} {tys : Array TypeId} {d d' s s' v : Value} {ty : TypeId} {H' : Heap} (hty : tys[0]? = some t1) (hd : VRel ι d d') (hs : VRel ι s s') (h : copyA T B t1 d s H = some (v, H')) :
    StepOk w0 ι B H (((Builtin.copy_ tys ty #[d', s']).run P w).andThen fun v w => .ok (.value v) w) v H' := by
  unfold copyA at h
  split at h
  · rename_i e de da n dc sa m sc he
    obtain ⟨hu, hde⟩ := elemT_eq hT he
    split at h
    · rename_i h0
      simp only [Option.some.injEq, Prod.mk.injEq] at h
      obtain ⟨rfl, rfl⟩ := h
      have hd2 : ∃ da' dc', d' = .slice da' n dc' := by cases hd <;> exact ⟨_, _, rfl⟩
      have hs2 : ∃ sa' sc', s' = .slice sa' m sc' := by cases hs <;> exact ⟨_, _, rfl⟩
      obtain ⟨da', dc', rfl⟩ := hd2
      obtain ⟨sa', sc', rfl⟩ := hs2
      have hf : (Builtin.firstCells de.size 0 (.slice sa' m sc')).run P w = .ok #[] w := by
        cases sa' with
        | none => exact run_firstCells_none w _ _ _ _
        | some ad => exact run_firstCells_some w _ 0 ad m sc' [] (by simp) (fun j v hv => by simp at hv)
      have h0' : Nat.min m n = 0 := h0
      have hr : (Builtin.copy_ tys ty #[.slice da' n dc', .slice sa' m sc']).run P w = .ok (.int .i64 0) w := by
        cases da' <;> simp [Builtin.copy_, hty, run_underlying hu, hT.sizeOf hde, Builtin.lenOf, h0', hf, storeCells, goInt]
      rw [hr]
      exact StepOk.pure hH rfl (.inr (.int _ _))
    · rename_i h0
      split at h
      · rename_i cs ad hcs
        cases hst : storeA B H ad.block ad.off cs with
        | none => simp [hst] at h
        | some H2 =>
          simp only [hst, Option.map_some, Option.some.injEq, Prod.mk.injEq] at h
          obtain ⟨rfl, rfl⟩ := h
          obtain ⟨cs', r1, r2, r3⟩ := rowA_rel (P := P) hH hs hcs
          cases hd with
          | sl b o n1 c1 L a' c' hL hn hz hl hxx ha =>
          have ha' := ha.resolve_right (by omega)
          subst ha'
          obtain ⟨w', q1, q2, q3, q4⟩ := hH.store (P := P) hst hL r1
          have hs2 : ∃ sa' sc', s' = .slice sa' m sc' := by cases hs <;> exact ⟨_, _, rfl⟩
          obtain ⟨sa', sc', rfl⟩ := hs2
          have hr3 : (Builtin.firstCells de.size (Nat.min m n) (.slice sa' m sc')).run P w = .ok ⟨cs'⟩ w := r3
          have hr : (Builtin.copy_ tys ty #[.slice (some ⟨L.blk, L.off + o, none⟩) n c', .slice sa' m sc']).run P w = .ok (.int .i64 ((min m n : Nat) : Int)) w' := by
            simp only [Builtin.copy_]
            simp [hty, run_underlying hu, hT.sizeOf hde, Builtin.lenOf, hr3, q1, goInt]
          rw [hr]
          exact ⟨_, _, _, ι, rfl, .inl rfl, q2, .inr (.int _ _), .refl _ _, q3, by omega⟩
      · simp at h
  · simp at h
theorem clearA_run (hT : TyOk P T) (hH : HRel w0 ι H w) (hB : B ≤ H.length) {t1 : Nat} {x x' v : Value} {ty : TypeId} {H' : Heap} (hx : VRel ι x x') (h : clearA T B t1 x H = some (v, H')) :
    StepOk w0 ι B H (((Builtin.clear_ #[t1] ty #[x']).run P w).andThen fun v w => .ok (.value v) w) v H' := by
  unfold clearA at h
  split at h
  · rename_i e de xa n xc he
    obtain ⟨hu, hde⟩ := elemT_eq hT he
    obtain ⟨z, hz, hzc⟩ := hT.zeroValue (w := w) hde
    split at h
    · rename_i h0; subst h0
      simp only [Option.some.injEq, Prod.mk.injEq] at h
      obtain ⟨rfl, rfl⟩ := h
      have hr : (Builtin.clear_ #[t1] ty #[x']).run P w = .ok (.tuple #[]) w := by
        cases hx <;> simp [Builtin.clear_, run_underlying hu]
      rw [hr]
      exact StepOk.pure hH rfl (.inr (.tuple _ _ rfl (fun i v v' h => by simp at h)))
    · rename_i h0
      split at h
      · rename_i ad
        cases hst : storeA B H ad.block ad.off (zerosL de.zero n) with
        | none => simp [hst] at h
        | some H2 =>
          simp only [hst, Option.map_some, Option.some.injEq, Prod.mk.injEq] at h
          obtain ⟨rfl, rfl⟩ := h
          cases hx with
          | sl b o n1 c1 L a' c' hL hn hz' hl hxx ha =>
          have ha' := ha.resolve_right (by omega)
          subst ha'
          have hfl := zerosL_flat (hT e de hde).zflat n
          obtain ⟨w', q1, q2, q3, q4⟩ := hH.store (P := P) hst hL (LRel.flat hfl)
          have hm : (Builtin.zeroCells z.cells n).toList = zerosL de.zero n := by rw [← hzc]; exact zeros_range z.cells n
          have hr : (Builtin.clear_ #[t1] ty #[.slice (some ⟨L.blk, L.off + o, none⟩) n c']).run P w = .ok (.tuple #[]) w' := by
            obtain ⟨n, rfl⟩ : ∃ k, n = k + 1 := ⟨n - 1, by omega⟩
            simp [Builtin.clear_, run_underlying hu, hz, hm, q1]
          rw [hr]
          exact ⟨_, _, _, ι, rfl, .inl rfl, q2, .inr (.tuple _ _ rfl (fun i v v' h => by simp at h)), .refl _ _, q3, by omega⟩
      · simp at h
  · simp at h
end
end Go.Proofs.Ytnmpgofhdjcpaaa.Eng
set_option linter.unusedVariables false
set_option linter.unusedSimpArgs false
namespace Go.Proofs.Ytnmpgofhdjcpaaa.Eng
open Go Go.RowKit
section
variable {P : Program} {T : Ty} {w0 w : World} {ι : Ren} {H : Heap} {t : List Value} {a : Act} {B : Nat}
theorem optInt_rel (hs : TS ι t a.tmps) {x : Option Operand} {l : Option Int} (h : optInt t x = some l) : IsInt l (x.map a.eval) := by
  cases x with
  | none => simp [optInt] at h; subst h; trivial
  | some x =>
    simp only [optInt] at h
    split at h
    · rename_i k n hv
      obtain rfl := Option.some.inj h
      have := evL_rel hs hv
      simp only [Option.map_some]
      cases hq : a.eval x <;> rw [hq] at this <;> cases this
      rfl
    · simp at h
theorem stepVal {H' : Heap} {v : Value} {s : Sem Value} (h : StepOk w0 ι B H ((s.run P w).andThen fun u w => .ok (Next.value u) w) v H') : StepOk w0 ι B H ((do pure (Next.value (← s)) : Sem Next).run P w) v H' := by
  simpa [Sem.run_bind] using h
theorem builtinA_run (hT : TyOk P T) (hH : HRel w0 ι H w) (hB : B ≤ H.length) {b : Builtin} {tys : Array TypeId} {ty : TypeId} {cs : Array Bool} {args args' : List Value} {v : Value} {H' : Heap} (hr : LRel ι args args') (h : builtinA T B b tys.toList args H = some (v, H')) :
    StepOk w0 ι B H ((builtin b tys ty cs ⟨args'⟩).run P w) v H' := by
  unfold builtinA at h
  split at h
  · rename_i t1 r x r2 htys
    obtain ⟨x', r', rfl, hx, _⟩ := hr.inv_cons
    cases hl : lenA T t1 x with
    | none => simp [hl] at h
    | some u =>
      simp only [hl, Option.map_some, Option.some.injEq, Prod.mk.injEq] at h; obtain ⟨rfl, rfl⟩ := h
      obtain ⟨v', g1, g2⟩ := lenA_run (P := P) (w := w) (rt := ty) (args' := ⟨x' :: r'⟩) hT (by rw [← Array.getElem?_toList, htys]; rfl) rfl hx hl
      exact StepOk.pure hH (by simp [builtin, g1]) (.inr g2)
  · rename_i x r
    obtain ⟨x', r', rfl, hx, hr'⟩ := hr.inv_cons
    cases hl : maxA x r with
    | none => simp [hl] at h
    | some u =>
      simp only [hl, Option.map_some, Option.some.injEq, Prod.mk.injEq] at h; obtain ⟨rfl, rfl⟩ := h
      obtain ⟨v', g1, g2⟩ := maxA_run (P := P) (w := w) r r' x x' _ hx hr' hl
      exact StepOk.pure hH (by simp [builtin, Builtin.max_, g1]) (.inr g2)
  · rename_i x r
    obtain ⟨x', r', rfl, hx, hr'⟩ := hr.inv_cons
    cases hl : minA x r with
    | none => simp [hl] at h
    | some u =>
      simp only [hl, Option.map_some, Option.some.injEq, Prod.mk.injEq] at h; obtain ⟨rfl, rfl⟩ := h
      obtain ⟨v', g1, g2⟩ := minA_run (P := P) (w := w) r r' x x' _ hx hr' hl
      exact StepOk.pure hH (by simp [builtin, Builtin.min_, g1]) (.inr g2)
  · rename_i t1 t2 s x htys
    obtain ⟨s', r', rfl, hs, hr'⟩ := hr.inv_cons
    obtain ⟨x', r', rfl, hx, hr''⟩ := hr'.inv_cons
    have : r' = [] := List.eq_nil_of_length_eq_zero (by have := hr''.1; simpa using this.symm)
    subst this
    have e : tys = #[t1, t2] := Array.ext' (by simpa using htys)
    subst e
    exact stepVal (appendA_run (ty := ty) hT hH hB hs hx h)
  · rename_i t1 r d s htys
    obtain ⟨d', r', rfl, hd, hr'⟩ := hr.inv_cons
    obtain ⟨s', r', rfl, hs, hr''⟩ := hr'.inv_cons
    have : r' = [] := List.eq_nil_of_length_eq_zero (by have := hr''.1; simpa using this.symm)
    subst this
    exact stepVal (copyA_run (ty := ty) hT hH hB (by rw [← Array.getElem?_toList, htys]; rfl) hd hs h)
  · rename_i t1 x htys
    obtain ⟨x', r', rfl, hx, hr'⟩ := hr.inv_cons
    have : r' = [] := List.eq_nil_of_length_eq_zero (by have := hr'.1; simpa using this.symm)
    subst this
    have e : tys = #[t1] := Array.ext' (by simpa using htys)
    subst e
    exact stepVal (clearA_run (ty := ty) hT hH hB hx h)
  · simp at h
theorem eqA_rel {eqOk : Nat → Bool} : ∀ (n t : Nat) (x y x' y' : Value) (r : Bool), VRel ι x x' → VRel ι y y' → eqA T eqOk n t x y = some r → eqA T eqOk n t x' y' = some r
  | 0, _, _, _, _, _, _, _, _, h => by simp [eqA] at h
  | n + 1, t, x, y, x', y', r, hx, hy, h => by
    simp only [eqA] at h ⊢
    cases hd : T t with
    | none => simp [hd] at h
    | some d =>
      simp only [hd] at h ⊢
      split at h
      · cases hx; cases hy; simp_all
      · cases hx; cases hy; simp_all
      · cases hx; cases hy; simp_all
      · rename_i fs xs ys e1
        simp only [e1]
        cases hx with
        | agg xs1 xs2 hl1 h1 =>
        cases hy with
        | agg ys1 ys2 hl2 h2 =>
        simp only at h ⊢
        split at h
        · rename_i hok
          rw [if_pos hok]
          have : ∀ (fs : List Field) (r : Bool), eqFieldsA T (eqA T eqOk n) fs xs1 ys1 = some r → eqFieldsA T (eqA T eqOk n) fs xs2 ys2 = some r := by
            intro fs
            induction fs with
            | nil => intro r h; simpa [eqFieldsA] using h
            | cons f fs ih =>
              intro r h
              simp only [eqFieldsA] at h ⊢
              split at h
              · simp at h
              · rename_i hn
                rw [if_neg hn]
                split at h
                · rename_i p q hp hq
                  obtain ⟨p', g1, g2⟩ := partL_rel (ι := ι) (T := T) ⟨hl1, h1⟩ hp
                  obtain ⟨q', g3, g4⟩ := partL_rel (ι := ι) (T := T) ⟨hl2, h2⟩ hq
                  simp only [g1, g3]
                  split at h
                  · rename_i u v hu hv
                    rw [eqA_rel n _ _ _ _ _ _ g2 g4 hu, ih _ hv]
                    exact h
                  · simp at h
                · simp at h
          exact this fs.toList r h
        · simp at h
      · simp at h
theorem binA_rel {eqOk : Nat → Bool} {op : BinOp} {t : Nat} {x y x' y' v : Value} (hx : VRel ι x x') (hy : VRel ι y y') (h : binA T eqOk op t x y = some v) : binA T eqOk op t x' y' = some v := by
  have hcase : (flatV x = true ∧ flatV y = true) ∨ (∃ xs ys, x = .agg xs ∧ y = .agg ys) ∨ ∃ a n c n' c', x = .slice a n c ∧ y = .slice none n' c' := by
    unfold binA at h
    split at h <;> first | exact .inl ⟨rfl, rfl⟩ | exact .inr (.inl ⟨_, _, rfl, rfl⟩) | exact .inr (.inr ⟨_, _, _, _, _, rfl, rfl⟩) | simp at h
  rcases hcase with ⟨h1, h2⟩ | ⟨xs, ys, rfl, rfl⟩ | ⟨a, n, c, n', c', rfl, rfl⟩
  · rw [hx.flat_eq h1, hy.flat_eq h2]; exact h
  · obtain ⟨xs', rfl⟩ : ∃ xs', x' = .agg xs' := by cases hx; exact ⟨_, rfl⟩
    obtain ⟨ys', rfl⟩ : ∃ ys', y' = .agg ys' := by cases hy; exact ⟨_, rfl⟩
    cases op <;> simp only [binA] at h ⊢ <;> first | (simp at h; done) | skip
    all_goals
      cases he : eqA T eqOk 9 t (.agg xs) (.agg ys) with
      | none => simp [he] at h
      | some r => rw [eqA_rel 9 t _ _ _ _ r hx hy he]; simpa [he] using h
  · have hy' : y' = .slice none 0 0 := by cases hy; rfl
    subst hy'
    obtain ⟨a', m', c2, rfl, ha⟩ : ∃ a' m' c2, x' = .slice a' m' c2 ∧ a'.isNone = a.isNone := by cases hx <;> exact ⟨_, _, _, rfl, rfl⟩
    cases op <;> simp only [binA] at h ⊢ <;> first | (simp at h; done) | (rw [ha]; exact h)
theorem map_some_pair {α : Type} {x : Option α} {H H' : Heap} {v : α} (h : x.map (·, H) = some (v, H')) : x = some v ∧ H' = H := by
  cases x <;> simp at h; exact ⟨by rw [h.1], h.2.symm⟩
set_option maxHeartbeats 4000000 in
theorem op_sound (hT : TyOk P T) {eqOk : Nat → Bool} (hE : EqOk P eqOk) (hH : HRel w0 ι H w) (hB : B ≤ H.length) (hs : TS ι t a.tmps) {o : Oper} {v : Value} {H' : Heap} (h : opA T eqOk B t H o = some (v, H')) :
    StepOk w0 ι B H ((execOp a.eval o).run P w) v H' := by
  obtain ⟨dst, op, ty0, pos, after, guard⟩ := o
  cases op with
  | move x =>
    simp only [opA] at h; simp only [execOp]
    obtain ⟨hv, rfl⟩ := map_some_pair h
    exact StepOk.pure hH rfl (ev_rel hs hv)
  | assign x =>
    simp only [opA] at h; simp only [execOp]
    obtain ⟨hv, rfl⟩ := map_some_pair h
    exact StepOk.pure hH rfl (ev_rel hs hv)
  | pick c x y =>
    simp only [opA] at h; simp only [execOp]
    split at h
    · rename_i q hq
      have := evL_rel hs hq
      have hc : a.eval c = .bool q := by cases hq2 : a.eval c <;> rw [hq2] at this <;> cases this; rfl
      split at h
      · rename_i hqt; subst hqt
        obtain ⟨hv, rfl⟩ := map_some_pair h
        exact StepOk.pure hH (v' := a.eval x) (by simp [hc, asBool]) (ev_rel hs hv)
      · rename_i hqf
        have hqf' : q = false := by simpa using hqf
        subst hqf'
        obtain ⟨hv, rfl⟩ := map_some_pair h
        exact StepOk.pure hH (v' := a.eval y) (by simp [hc, asBool]) (ev_rel hs hv)
    · simp at h
  | alloc e1 =>
    simp only [opA] at h; simp only [execOp]
    split at h
    · rename_i d hd
      obtain ⟨z, hz, hzc⟩ := hT.zeroValue (w := w) hd
      have hfl := (hT _ d hd).zflat
      refine stepVal ?_
      have hr : (Instr.alloc e1 true (.tuple #[])).run P w = .ok (.pointer (some ⟨w.heap.size, 0, none⟩)) (w.alloc (.cells ⟨d.zero⟩ e1)) := by
        have : z.cells = ⟨d.zero⟩ := Array.ext' hzc
        simp [Instr.alloc, hz, newVar, newRow, this]
      rw [hr]
      exact new_ok hH hB (LRel.flat fun v hv => (List.all_eq_true.1 hfl) v hv) (fun _ v hv => (List.all_eq_true.1 hfl) v hv) h
    · simp at h
  | box e1 x =>
    simp only [opA] at h; simp only [execOp]
    split at h
    · rename_i d u hd hu
      refine stepVal ?_
      have hr := evL_rel hs hu
      have hc := cells_rel hr
      have hr : (Instr.box e1 (a.eval x)).run P w = .ok (.pointer (some ⟨w.heap.size, 0, none⟩)) (w.alloc (.cells ⟨cellsL (a.eval x)⟩ e1)) := by
        have : (a.eval x).cells = ⟨cellsL (a.eval x)⟩ := Array.ext' (by rw [cellsL_eq])
        simp [Instr.box, newVar, newRow, this]
      rw [hr]
      exact new_ok hH hB hc (fun hf v hv => by
        simp only [Bool.and_eq_true] at hf
        exact (List.all_eq_true.1 hf.2) v hv) h
    · simp at h
  | build ty parts =>
    simp only [opA] at h; simp only [execOp]
    split at h
    · rename_i l hl
      obtain ⟨hv, rfl⟩ := map_some_pair h
      obtain ⟨e1, e2⟩ := evParts_rel hs _ _ hl
      obtain ⟨v', g1, g2⟩ := buildA_run (P := P) (w := w) (parts' := parts.map fun (i, x) => (i, a.eval x)) hT (by simpa using e1) (by simpa using e2) hv
      refine stepVal (StepOk.pure hH (v' := v') ?_ (.inr g2))
      rw [g1]; rfl
    · simp at h
  | buildSlice ty len parts =>
    simp only [opA] at h; simp only [execOp]
    split at h
    · rename_i l hl
      obtain ⟨e1, e2⟩ := evParts_rel hs _ _ hl
      refine stepVal ?_
      generalize hp : (parts.map fun (i, x) => (i, a.eval x)) = pa
      have hpl : pa.toList = parts.toList.map fun p => (p.1, a.eval p.2) := by rw [← hp]; simp
      exact buildSliceA_run hT hH hB (by rw [hpl]; simpa using e1) (by rw [hpl]; simpa using e2) h
    · simp at h
  | load ty x =>
    simp only [opA] at h; simp only [execOp]
    split at h
    · rename_i u hu
      obtain ⟨hv, rfl⟩ := map_some_pair h
      obtain ⟨v', g1, g2⟩ := loadVarA_run (P := P) hT hH (evL_rel hs hu) hv
      exact stepVal (StepOk.pure hH (v' := v') (by rw [g1]; rfl) (.inr g2))
    · simp at h
  | store ty x y =>
    simp only [opA] at h; simp only [execOp]
    split at h
    · rename_i u1 u2 hu1 hu2
      cases hst : storeVarA T B ty u1 u2 H with
      | none => simp [hst] at h
      | some H2 =>
        simp only [hst, Option.map_some, Option.some.injEq, Prod.mk.injEq] at h; obtain ⟨rfl, rfl⟩ := h
        obtain ⟨w', g1, g2, g3, g4⟩ := storeVarA_run (P := P) hT hH (evL_rel hs hu1) (evL_rel hs hu2) hst
        exact ⟨.skip, undef, w', ι, by simp [g1], .inr ⟨rfl, rfl⟩, g2, .inr (.tuple _ _ rfl (fun i v v' h => by simp at h)), .refl _ _, g3, by omega⟩
    · simp at h
  | nilCheck x =>
    simp only [opA] at h; simp only [execOp]
    split at h
    · rename_i ad hu
      simp only [Option.some.injEq, Prod.mk.injEq] at h; obtain ⟨rfl, rfl⟩ := h
      have hr := evL_rel hs hu
      cases hq : a.eval x <;> rw [hq] at hr <;> cases hr
      exact StepOk.pure hH (by simp only [hq]; rfl) (.inr (.ptr _ _ _ (by assumption)))
    · rename_i f fs cs hu
      simp only [Option.some.injEq, Prod.mk.injEq] at h; obtain ⟨rfl, rfl⟩ := h
      have hr := evL_rel hs hu
      cases hq : a.eval x <;> rw [hq] at hr <;> cases hr
      exact StepOk.pure hH (by simp only [hq]; rfl) (.inr (.func _ _ _ (by assumption) (by assumption)))
    · simp at h
  | binOp op ty x y c =>
    simp only [opA] at h; simp only [execOp]
    split at h
    · rename_i u1 u2 hu1 hu2
      obtain ⟨hv, rfl⟩ := map_some_pair h
      have h1 := evL_rel hs hu1
      have h2 := evL_rel hs hu2
      have hb := binA_rel h1 h2 hv
      obtain ⟨g1, g2⟩ := binA_run (P := P) (w := w) (ox := x) (oy := y) hT hE hb
      exact stepVal (StepOk.pure hH (v' := v) (by rw [g1]; rfl) (.inr (.flat g2)))
    · simp at h
  | unOp op ty x =>
    simp only [opA] at h; simp only [execOp]
    split at h
    · rename_i u1 hu1
      obtain ⟨hv, rfl⟩ := map_some_pair h
      have h1 := evL_rel hs hu1
      have hf : flatV u1 = true := by
        unfold unA at hv
        split at hv <;> first | rfl | simp at hv
      have h1' := h1.flat_eq hf
      obtain ⟨g1, g2⟩ := unA_run (P := P) (w := w) hv
      exact stepVal (StepOk.pure hH (v' := v) (by rw [h1', g1]; rfl) (.inr (.flat g2)))
    · simp at h
  | convert s d x =>
    simp only [opA] at h; simp only [execOp]
    split at h
    · rename_i u1 hu1
      obtain ⟨hv, rfl⟩ := map_some_pair h
      obtain ⟨v', g1, g2⟩ := convA_run (P := P) (w := w) hT (evL_rel hs hu1) hv
      exact stepVal (StepOk.pure hH (v' := v') (by rw [g1]; rfl) (.inr g2))
    · simp at h
  | makeFunc fn first caps =>
    cases fn with
    | func f =>
      simp only [opA] at h; simp only [execOp]
      split at h
      · rename_i hf0
        cases hl : evAllL t caps.toList with
        | none => simp [hl] at h
        | some l =>
          simp only [hl, Option.map_some, Option.some.injEq, Prod.mk.injEq] at h; obtain ⟨rfl, rfl⟩ := h
          have hr := evAllL_rel hs _ _ hl
          have hfe : first = #[] := Array.eq_empty_of_size_eq_zero hf0
          subst hfe
          have hc : caps.map a.eval = ⟨caps.toList.map a.eval⟩ := Array.ext' (by simp)
          exact stepVal (StepOk.pure hH (v' := .func (.func f) #[] ⟨caps.toList.map a.eval⟩) (by simp [Instr.makeFunc, hc]) (.inr (.func f _ _ hr.1 hr.2)))
      · simp at h
    | _ => simp [opA] at h
  | makeSlice ty l c =>
    simp only [opA] at h; simp only [execOp]
    split at h
    · rename_i u1 u2 hu1 hu2
      exact stepVal (makeSliceA_run hT hH hB (evL_rel hs hu1) (evL_rel hs hu2) h)
    · simp at h
  | slice ty x lo hi mx =>
    simp only [opA] at h; simp only [execOp]
    split at h
    · rename_i u l hh m hu hl hhi hm
      obtain ⟨hv, rfl⟩ := map_some_pair h
      obtain ⟨v', g1, g2⟩ := sliceA_run (P := P) (w := w) hT hH (optInt_rel hs hl) (optInt_rel hs hhi) (optInt_rel hs hm) (evL_rel hs hu) hv
      exact stepVal (StepOk.pure hH (v' := v') (by rw [g1]; rfl) (.inr g2))
    · simp at h
  | fieldAddr ty x f =>
    simp only [opA] at h; simp only [execOp]
    split at h
    · rename_i u hu
      obtain ⟨hv, rfl⟩ := map_some_pair h
      obtain ⟨v', g1, g2⟩ := fieldAtA_run (P := P) (w := w) hT (evL_rel hs hu) hv
      exact stepVal (StepOk.pure hH (v' := v') (by rw [g1]; rfl) (.inr g2))
    · simp at h
  | field ty x f =>
    simp only [opA] at h; simp only [execOp]
    split at h
    · rename_i u hu
      obtain ⟨hv, rfl⟩ := map_some_pair h
      obtain ⟨v', g1, g2⟩ := fieldA_run (P := P) (w := w) hT (evL_rel hs hu) hv
      exact stepVal (StepOk.pure hH (v' := v') (by rw [g1]; rfl) (.inr g2))
    · simp at h
  | indexAddr ty x i =>
    simp only [opA] at h; simp only [execOp]
    split at h
    · rename_i u1 u2 hu1 hu2
      obtain ⟨hv, rfl⟩ := map_some_pair h
      obtain ⟨v', g1, g2⟩ := indexAtA_run (P := P) (w := w) hT (evL_rel hs hu1) (evL_rel hs hu2) hv
      exact stepVal (StepOk.pure hH (v' := v') (by rw [g1]; rfl) (.inr g2))
    · simp at h
  | index ty x i =>
    simp only [opA] at h; simp only [execOp]
    split at h
    · rename_i u1 u2 hu1 hu2
      obtain ⟨hv, rfl⟩ := map_some_pair h
      obtain ⟨v', g1, g2⟩ := indexA_run (P := P) (w := w) hT (evL_rel hs hu1) (evL_rel hs hu2) hv
      exact stepVal (StepOk.pure hH (v' := v') (by rw [g1]; rfl) (.inr g2))
    · simp at h
  | extract x i =>
    simp only [opA] at h; simp only [execOp]
    split at h
    · rename_i vs hu
      obtain ⟨hv, rfl⟩ := map_some_pair h
      have hr := evL_rel hs hu
      cases hq : a.eval x <;> rw [hq] at hr <;> cases hr
      rename_i xs ys hl hxy
      obtain ⟨v', g1, g2⟩ := LRel.get (ι := ι) ⟨hl, hxy⟩ hv
      refine stepVal (StepOk.pure hH (v' := v') ?_ (.inr g2))
      simp [Instr.extract, hq, g1]
    · simp at h
  | call c0 =>
    obtain ⟨callee, args, tys⟩ := c0
    cases callee with
    | builtin b =>
      simp only [opA] at h; simp only [execOp]
      split at h
      · rename_i l hl
        have hr := evAllL_rel hs _ _ hl
        have hc : args.map a.eval = ⟨args.toList.map a.eval⟩ := Array.ext' (by simp)
        simp only [resolve, pure_bind, invoke, hc]
        exact builtinA_run hT hH hB hr h
      · simp at h
    | _ => simp [opA] at h
  | _ => simp [opA] at h
end
end Go.Proofs.Ytnmpgofhdjcpaaa.Eng
set_option linter.unusedVariables false
set_option linter.unusedSimpArgs false
namespace Go.Proofs.Ytnmpgofhdjcpaaa.Eng
open Go Go.RowKit
abbrev AQ := Exit → List Value → Heap → Prop
def Post (w0 : World) (ι : Ren) (B : Nat) (H : Heap) (Q : AQ) : Exit → Act → World → Prop := fun e a w =>
  ∃ (t' : List Value) (H' : Heap) (ι' : Ren), Q e t' H' ∧ HRel w0 ι' H' w ∧ TS ι' t' a.tmps ∧ a.defers = [] ∧ Ext B ι ι' ∧ OCs B H H' ∧ B ≤ H'.length
def Ex (P : Program) (B : Nat) (c : Code) (t : List Value) (H : Heap) (Q : AQ) : Prop :=
  ∀ (w0 : World) (ι : Ren) (w : World) (a : Act), HRel w0 ι H w → TS ι t a.tmps → a.defers = [] → B ≤ H.length → OC B H → c.wp P (Post w0 ι B H Q) a w
def thenA (next : List Value → Heap → Prop) (Q : AQ) : AQ
  | .normal, t, H => next t H
  | e, t, H => Q e t H
def inBlockA (id : Nat) (Q : AQ) : AQ
  | .exit id', t, H => if id' = id then Q .normal t H else Q (.exit id') t H
  | e, t, H => Q e t H
section
variable {P : Program} {B : Nat} {t : List Value} {H : Heap} {Q : AQ}
theorem Post.mono {w0 : World} {ι ι1 : Ren} {H1 : Heap} {Q1 : AQ} (hE : Ext B ι ι1) (hO : OCs B H H1) (hq : ∀ e t H, Q1 e t H → Q e t H) {e : Exit} {a : Act} {w : World} (h : Post w0 ι1 B H1 Q1 e a w) : Post w0 ι B H Q e a w := by
  obtain ⟨t', H', ι', q, h1, h2, h3, h4, h5, h6⟩ := h
  exact ⟨t', H', ι', hq _ _ _ q, h1, h2, h3, hE.trans h4 (Nat.le_refl _), hO.trans h5, h6⟩
theorem Ex.mono {c : Code} {Q1 : AQ} (h : Ex P B c t H Q1) (hq : ∀ e t H, Q1 e t H → Q e t H) : Ex P B c t H Q :=
  fun w0 ι w a h1 h2 h3 h4 h5 => wp_mono (h w0 ι w a h1 h2 h3 h4 h5) fun e a w => Post.mono (Ext.refl _ _) (.refl _ _) hq
theorem Post.now {w0 : World} {ι : Ren} {e : Exit} {a : Act} {w : World} (hq : Q e t H) (h1 : HRel w0 ι H w) (h2 : TS ι t a.tmps) (h3 : a.defers = []) (h4 : B ≤ H.length) : Post w0 ι B H Q e a w :=
  ⟨t, H, ι, hq, h1, h2, h3, .refl _ _, .refl _ _, h4⟩
theorem Ex_skip (h : Q .normal t H) : Ex P B .skip t H Q := fun w0 ι w a h1 h2 h3 h4 h5 => wp_skip (.now h h1 h2 h3 h4)
theorem Ex_exit {id : Nat} (h : Q (.exit id) t H) : Ex P B (.exit id) t H Q := fun w0 ι w a h1 h2 h3 h4 h5 => wp_exit (.now h h1 h2 h3 h4)
theorem Ex_ret (h : Q .ret t H) : Ex P B .ret t H Q := fun w0 ι w a h1 h2 h3 h4 h5 => wp_ret (.now h h1 h2 h3 h4)
theorem Ex_seq {x y : Code} (h : Ex P B x t H (thenA (fun t H => Ex P B y t H Q) Q)) : Ex P B (.seq x y) t H Q := fun w0 ι w a h1 h2 h3 h4 h5 => by
  refine wp_seq (wp_mono (h w0 ι w a h1 h2 h3 h4 h5) fun e a' w' hp => ?_)
  obtain ⟨t', H', ι', q, k1, k2, k3, k4, k5, k6⟩ := hp
  cases e <;> first
    | exact ⟨t', H', ι', q, k1, k2, k3, k4, k5, k6⟩
    | exact wp_mono (q w0 ι' w' a' k1 k2 k3 k6 (k5 B (Nat.le_refl _) h5)) fun e a w => Post.mono k4 k5 (fun _ _ _ q => q)
theorem Ex_cond {c : Operand} {x y : Code} {q : Bool} (hc : evL t c = some (.bool q)) (h : Ex P B (if q = true then x else y) t H Q) : Ex P B (.cond c x y) t H Q := fun w0 ι w a h1 h2 h3 h4 h5 => by
  have hr := evL_rel h2 hc
  have hv : a.eval c = .bool q := by cases hq : a.eval c <;> rw [hq] at hr <;> cases hr; rfl
  exact wp_cond hv (h w0 ι w a h1 h2 h3 h4 h5)
theorem Ex_block {id : Nat} {c : Code} (h : Ex P B c t H (inBlockA id Q)) : Ex P B (.block id c) t H Q := fun w0 ι w a h1 h2 h3 h4 h5 => by
  refine wp_block (wp_mono (h w0 ι w a h1 h2 h3 h4 h5) fun e a' w' hp => ?_)
  obtain ⟨t', H', ι', q, k1, k2, k3, k4, k5, k6⟩ := hp
  cases e with
  | exit id' =>
    simp only [inBlockA] at q
    simp only [Exit.inBlock]
    split
    · rename_i he; rw [if_pos he] at q; exact ⟨t', H', ι', q, k1, k2, k3, k4, k5, k6⟩
    · rename_i he; rw [if_neg he] at q; exact ⟨t', H', ι', q, k1, k2, k3, k4, k5, k6⟩
  | _ => exact ⟨t', H', ι', q, k1, k2, k3, k4, k5, k6⟩
def RoundsA (P : Program) (B : Nat) (c : Code) (Q : AQ) : Nat → List Value → Heap → Prop
  | 0, _, _ => False
  | n + 1, t, H => Ex P B c t H (thenA (RoundsA P B c Q n) Q)
theorem rounds_run {c : Code} {w0 : World} : ∀ (n : Nat) (t : List Value) (H : Heap) (ι ι0 : Ren) (H0 : Heap) (w : World) (a : Act), RoundsA P B c Q n t H → HRel w0 ι H w → TS ι t a.tmps → a.defers = [] → B ≤ H.length → OC B H → Ext B ι0 ι → OCs B H0 H →
    Code.rounds P c (Post w0 ι0 B H0 Q) n a w
  | 0, t, H, ι, ι0, H0, w, a, h, _, _, _, _, _, _, _ => h
  | n + 1, t, H, ι, ι0, H0, w, a, h, h1, h2, h3, h4, h5, h6, h7 => by
    refine wp_mono (h w0 ι w a h1 h2 h3 h4 h5) fun e a' w' hp => ?_
    obtain ⟨t', H', ι', q, k1, k2, k3, k4, k5, k6⟩ := hp
    have e1 := h6.trans k4 (Nat.le_refl _)
    have e2 := h7.trans k5
    cases e <;> first
      | exact ⟨t', H', ι', q, k1, k2, k3, e1, e2, k6⟩
      | exact rounds_run n t' H' ι' ι0 H0 w' a' q k1 k2 k3 k6 (k5 B (Nat.le_refl _) h5) e1 e2
theorem Ex_rounds {c : Code} (n : Nat) (h : RoundsA P B c Q n t H) : Ex P B (.loop c) t H Q := fun w0 ι w a h1 h2 h3 h4 h5 =>
  wp_loop_rounds n (rounds_run n t H ι ι H w a h h1 h2 h3 h4 h5 (.refl _ _) (.refl _ _))
def Enters (P : Program) (f : FuncId) : Prop := ∃ fn, P.funcs[f]? = some fn ∧ (fn.name == "runtime.NumGoroutine") = false ∧ fn.body.isNone = false
/-- f, called with these values at this heap, answers as told. -/
def Runs (P : Program) (f : FuncId) (args : List Value) (H : Heap) (R : Value → Heap → Prop) : Prop :=
  Enters P f ∧ ∀ (w0 : World) (ι : Ren) (w : World) (args' : List Value), HRel w0 ι H w → LRel ι args args' →
    Calls P f ⟨args'⟩ w fun e w' => ∃ (v v' : Value) (H' : Heap) (ι' : Ren), e = .returned v' ∧ R v H' ∧ VRel ι' v v' ∧ HRel w0 ι' H' w' ∧ Ext H.length ι ι' ∧ OCs H.length H H' ∧ H.length ≤ H'.length
theorem Runs.mono {f : FuncId} {args : List Value} {R R1 : Value → Heap → Prop} (h : Runs P f args H R1) (hr : ∀ v H, R1 v H → R v H) : Runs P f args H R :=
  ⟨h.1, fun w0 ι w args' h1 h2 => (h.2 w0 ι w args' h1 h2).mono fun e w' ⟨v, v', H', ι', a1, a2, a3⟩ => ⟨v, v', H', ι', a1, hr _ _ a2, a3⟩⟩
/-- One operation. -/
def OpX (P : Program) (B : Nat) (o : Oper) (t : List Value) (H : Heap) (K : Value → Heap → Prop) : Prop :=
  ∀ (w0 : World) (ι : Ren) (w : World) (a : Act) (Qx : Exit → Act → World → Prop), HRel w0 ι H w → TS ι t a.tmps → B ≤ H.length →
    o.wp P a w (fun a' w' => ∃ (v v' : Value) (H' : Heap) (ι' : Ren), a' = a.put o.dst v' ∧ K v H' ∧ TRel ι' v v' ∧ HRel w0 ι' H' w' ∧ Ext H.length ι ι' ∧ OCs B H H' ∧ H.length ≤ H'.length) Qx
theorem OpX.mono {o : Oper} {K K1 : Value → Heap → Prop} (h : OpX P B o t H K1) (hk : ∀ v H, K1 v H → K v H) : OpX P B o t H K := fun w0 ι w a Qx h1 h2 h3 =>
  Oper.wp_mono (fun a' w' ⟨v, v', H', ι', a1, a2, a3⟩ => ⟨v, v', H', ι', a1, hk _ _ a2, a3⟩) (h w0 ι w a Qx h1 h2 h3)
theorem OpX_op {T : Ty} {eqOk : Nat → Bool} (hT : TyOk P T) (hE : EqOk P eqOk) {o : Oper} {K : Value → Heap → Prop} {v : Value} {H' : Heap} (h : opA T eqOk B t H o = some (v, H')) (hk : K v H') : OpX P B o t H K := fun w0 ι w a Qx h1 h2 h3 => by
  obtain ⟨nx, v', w', ι', g1, g2, g3, g4, g5, g6, g7⟩ := op_sound hT hE h1 h3 h2 h
  unfold Oper.wp
  rw [g1]
  rcases g2 with rfl | ⟨rfl, rfl⟩
  · exact ⟨v, v', H', ι', rfl, hk, g4, g3, g5, g6, g7⟩
  · exact ⟨v, undef, H', ι', rfl, hk, g4, g3, g5, g6, g7⟩
/-- The bytes of a text. -/
def bytesL (ns : List Int) : List UInt8 := ns.map fun n => UInt8.ofNat n.toNat
theorem push_fold (ns : List Int) : ∀ (s : ByteArray), ns.foldl (fun r n => r.push (UInt8.ofNat n.toNat)) s = ⟨⟨s.data.toList ++ bytesL ns⟩⟩ := by
  induction ns with
  | nil => intro s; simp [bytesL]
  | cons n ns ih =>
    intro s
    rw [List.foldl_cons, ih]
    simp [bytesL, ByteArray.push]
theorem ints_rel {ι : Ren} : ∀ {ns : List Int} {vs' : List Value}, LRel ι (ns.map (Value.int .u8)) vs' → vs' = ns.map (Value.int .u8)
  | [], vs', h => List.eq_nil_of_length_eq_zero (by have := h.1; simpa using this.symm)
  | n :: ns, [], h => by have := h.1; simp at this
  | n :: ns, v :: vs', h => by
    have h0 := h.2 0 (.int .u8 n) v (by simp) (by simp)
    cases h0
    have := ints_rel (ι := ι) (ns := ns) (vs' := vs') ⟨by have := h.1; simpa using this, fun i a b h1 h2 => h.2 (i + 1) a b (by simpa using h1) (by simpa using h2)⟩
    rw [this]; rfl
/-- Bytes turned to a text. -/
theorem OpX_bytes {T : Ty} (hT : TyOk P T) {o : Oper} {K : Value → Heap → Prop} {s d e m : Nat} {x : Operand} {ds dd de : TyD} {xa : Option Addr} {xc : Nat} {ns : List Int} (ho : o.op = .convert s d x) (hs : T s = some ds) (hsu : ds.und = .slice e) (he : T e = some de) (heu : de.und = .int .u8) (hd : T d = some dd) (hdu : dd.und = .string)
    (hx : evL t x = some (.slice xa m xc)) (hl : rowA H 1 (.slice xa m xc) m = some (ns.map (Value.int .u8))) (hk : K (.string ⟨⟨bytesL ns⟩⟩) H) : OpX P B o t H K := fun w0 ι w a Qx h1 h2 h3 => by
  have hu1 := (hT s ds hs).und; rw [hsu] at hu1
  have hu2 := (hT e de he).und; rw [heu] at hu2
  have hu3 := (hT d dd hd).und; rw [hdu] at hu3
  have hr := evL_rel h2 hx
  have key : (execOp a.eval o).run P w = .ok (.value (.string ⟨⟨bytesL ns⟩⟩)) w := by
    have hc : ∀ x', VRel ι (.slice xa m xc) x' → (convert s d x').run P w = .ok (.string ⟨⟨bytesL ns⟩⟩) w := by
      intro x' hx'
      cases hx' with
      | nilSl =>
        rw [run_convert_bytes_string w s d e _ _ _ hu1 hu2 hu3]
        simp only [rowA, if_true] at hl
        have : ns = [] := by simpa using (Option.some.inj hl).symm
        subst this
        simp [Conv.bytesToString, Sem.run_pure, bytesL]
        rfl
      | sl b o' n c L a' c' hb hn hz hl0 hx0 ha =>
        rw [run_convert_bytes_string w s d e _ _ _ hu1 hu2 hu3]
        simp only [rowA, Nat.le_refl, if_true, Nat.mul_one] at hl
        have hld : (loadCells a' m).run P w = .ok (ns.map (Value.int .u8)).toArray w := by
          rcases ha with ha | ha
          · obtain ⟨vs', g1, g2⟩ := h1.load (P := P) hl hb
            rw [ints_rel g2] at g1
            rw [ha]; exact g1
          · have hm : m = 0 := by omega
            subst hm
            have h0 : ns = [] := by
              unfold loadA at hl
              split at hl
              · split at hl
                · simpa using (Option.some.inj hl)
                · simp at hl
              · simp at hl
            subst h0
            exact run_loadCells (P := P) w a' 0 (fun _ => undef) (fun j hj => absurd hj (Nat.not_lt_zero _))
        rw [run_bytesToString w a' m c' ns hld, push_fold]
        rfl
    unfold execOp
    simp only [ho, Sem.run_bind, hc _ hr, Result.andThen_ok]
    rfl
  unfold Oper.wp
  rw [key]
  exact ⟨_, _, H, ι, rfl, hk, .inr (.str _), h1, .refl _ _, .refl _ _, Nat.le_refl _⟩
theorem OpX_call {o : Oper} {fo : Operand} {args : Array Operand} {tys : Array TypeId} {f : FuncId} {caps zas : List Value} {K R : Value → Heap → Prop} (ho : o.op = .call ⟨.value fo, args, tys⟩)
    (hf : evL t fo = some (.func (.func f) #[] ⟨caps⟩)) (ha : evAllL t args.toList = some zas) (hr : Runs P f (zas ++ caps) H R) (hk : ∀ v H', R v H' → K v H') : OpX P B o t H K := fun w0 ι w a Qx h1 h2 h3 => by
  obtain ⟨⟨fn, e1, e2, e3⟩, hr⟩ := hr
  have hfr := evL_rel h2 hf
  have har := evAllL_rel h2 _ _ ha
  obtain ⟨caps', hfv, hcr⟩ : ∃ caps', a.eval fo = .func (.func f) #[] ⟨caps'⟩ ∧ LRel ι caps caps' := by
    cases hq : a.eval fo <;> rw [hq] at hfr <;> cases hfr
    rename_i ys hl hxy
    exact ⟨ys, rfl, hl, hxy⟩
  have hargs : args.map a.eval = ⟨args.toList.map a.eval⟩ := Array.ext' (by simp)
  have hcall := hr w0 ι w (args.toList.map a.eval ++ caps') h1 (har.append hcr)
  unfold Oper.wp
  have hx : (execOp a.eval o).run P w = .ok (.enter f ⟨args.toList.map a.eval ++ caps'⟩) w := by
    unfold execOp
    simp only [ho, resolve, Deferred.ofValue, hfv, hargs]
    have e5 : ¬ fn.name = "runtime.NumGoroutine" := by simpa using e2
    have e4 : ¬ fn.body = none := by intro hn; simp [hn] at e3
    simp [invoke, callFunc, e1, e5, e4]
  rw [hx]
  refine hcall.mono fun e w' ⟨v, v', H', ι', a1, a2, a3, a4, a5, a6, a7⟩ => ?_
  subst a1
  exact ⟨v, v', H', ι', rfl, hk _ _ a2, .inr a3, a4, a5, a6.mono h3, a7⟩
end
end Go.Proofs.Ytnmpgofhdjcpaaa.Eng
set_option linter.unusedVariables false
set_option linter.unusedSimpArgs false
namespace Go.Proofs.Ytnmpgofhdjcpaaa.Eng
open Go Go.RowKit
def boolOf : Value → Option Bool | .bool b => some b | _ => none
def wantedA (ops : Array Oper) (o : Oper) (t : List Value) : Option Bool :=
  match o.guard with
  | none => some true
  | some (j, want) => match ((ops[j]?).bind (·.dst)).bind (t[·]?) with
    | some v => if isDead v = true then none else some (boolOf v == some want)
    | none => none
def putT (t : List Value) (d : Option Tmp) (v : Value) : List Value := match d with | some i => t.set i v | none => t
def RegX (P : Program) (B : Nat) (ops : Array Oper) : List Oper → List Value → Heap → (List Value → Heap → Prop) → Prop
  | [], t, H, K => K t H
  | o :: r, t, H, K => ∃ q, wantedA ops o t = some q ∧ (if q = true then OpX P B o t H (fun v H' => RegX P B ops r (putT t o.dst v) H' K) else RegX P B ops r (putT t o.dst undef) H K)
section
variable {P : Program} {B : Nat} {t : List Value} {H : Heap} {Q : AQ}
theorem wantedA_run {ι : Ren} {ops : Array Oper} {o : Oper} {a : Act} {q : Bool} (hs : TS ι t a.tmps) (h : wantedA ops o t = some q) : Region.wanted o (yielded ops a.tmps) = q := by
  unfold wantedA at h
  unfold Region.wanted
  split at h
  · rename_i hg; rw [hg]; exact Option.some.inj h
  · rename_i j want hg
    rw [hg]
    simp only
    split at h
    · rename_i v hv
      split at h
      · simp at h
      · rename_i hd
        have hd' : isDead v = false := by simpa using hd
        obtain rfl := Option.some.inj h
        unfold yielded
        cases hb : (ops[j]?).bind (·.dst) with
        | none => simp [hb] at hv
        | some d =>
          simp only [hb, Option.bind_some] at hv ⊢
          have hlt : d < t.length := (List.getElem?_eq_some_iff.1 hv).1
          have hlt' : d < a.tmps.size := Nat.lt_of_lt_of_eq hlt hs.1
          have hr := (hs.2 d v a.tmps[d] hv (by simp [hlt'])).live hd'
          rw [Array.getElem?_eq_getElem hlt']
          generalize a.tmps[d] = u at hr
          cases hr <;> rfl
    · simp at h
theorem TS.putT {ι : Ren} {a : Act} (h : TS ι t a.tmps) (d : Option Tmp) {v v' : Value} (hv : TRel ι v v') : TS ι (putT t d v) (a.put d v').tmps := h.put d hv
theorem undef_rel (ι : Ren) : VRel ι undef undef := .tuple _ _ rfl (fun i v v' h => by simp at h)
theorem TS.ext {w0 : World} {ι ι' : Ren} {w : World} {tm : Array Value} (hH : HRel w0 ι H w) (hE : Ext H.length ι ι') (h : TS ι t tm) : TS ι' t tm := h.mono (hH.ext hE)
theorem regX_run {w0 : World} {ops : Array Oper} {ι0 : Ren} {H0 : Heap} : ∀ (n k : Nat) (t : List Value) (H : Heap) (ι : Ren) (w : World) (a : Act), k + n = ops.size → RegX P B ops (ops.toList.drop k) t H (fun t H => Q .normal t H) →
    HRel w0 ι H w → TS ι t a.tmps → a.defers = [] → B ≤ H.length → OC B H → Ext B ι0 ι → OCs B H0 H → wpOps P ops (Post w0 ι0 B H0 Q) (List.range' k n) a w
  | 0, k, t, H, ι, w, a, hk, h, h1, h2, h3, h4, h5, h6, h7 => by
    rw [List.drop_eq_nil_of_le (by simp; omega)] at h
    exact ⟨t, H, ι, h, h1, h2, h3, h6, h7, h4⟩
  | n + 1, k, t, H, ι, w, a, hk, h, h1, h2, h3, h4, h5, h6, h7 => by
    have hlt : k < ops.size := by omega
    rw [List.drop_eq_getElem_cons (by simpa using hlt)] at h
    obtain ⟨q, hq, h⟩ := h
    rw [List.range'_succ, wpOps_cons]
    unfold wpOp
    have ho : ops[k]? = some ops.toList[k] := by simp [hlt]
    rw [ho]
    simp only
    rw [wantedA_run h2 hq]
    cases q with
    | true =>
      simp only [if_true] at h ⊢
      refine .inl (Oper.wp_mono ?_ (h w0 ι w a _ h1 h2 h4))
      rintro a' w' ⟨v, v', H', ι', rfl, a2, a3, a4, a5, a6, a7⟩
      have hE : Ext B ι ι' := a5.mono h4
      exact regX_run n (k + 1) _ H' ι' w' _ (by omega) a2 a4 ((h2.ext h1 a5).putT _ a3) (by cases hd : ops.toList[k].dst <;> simp [Act.put, h3]) (by omega) (a6 B (Nat.le_refl _) h5) (h6.trans hE (Nat.le_refl _)) (h7.trans a6)
    | false =>
      simp only [Bool.false_eq_true, if_false] at h ⊢
      exact regX_run n (k + 1) _ H ι w _ (by omega) h h1 (h2.putT _ (.inr (undef_rel ι))) (by cases hd : ops.toList[k].dst <;> simp [Act.put, h3]) h4 h5 h6 h7
theorem Ex_region {id : Nat} {ops : Array Oper} (h : RegX P B ops ops.toList t H (fun t H => Q .normal t H)) : Ex P B (.region id ops false) t H Q := fun w0 ι w a h1 h2 h3 h4 h5 => by
  refine wp_region ?_
  rw [List.range_eq_range']
  exact regX_run ops.size 0 t H ι w a (by omega) (by simpa using h) h1 h2 h3 h4 h5 (.refl _ _) (.refl _ _)
inductive Rn (B : Nat) (ks : List Nat) : Value → Value → Prop
  | lt (v : Value) (h : Lt B v) : Rn B ks v v
  | ptr (b b2 i k o : Nat) (hk : ks[i]? = some k) (hb : b = B + k) (hb2 : b2 = B + i) : Rn B ks (.pointer (some ⟨b, o, none⟩)) (.pointer (some ⟨b2, o, none⟩))
  | sl (b b2 i k o n c : Nat) (hk : ks[i]? = some k) (hb : b = B + k) (hb2 : b2 = B + i) : Rn B ks (.slice (some ⟨b, o, none⟩) n c) (.slice (some ⟨b2, o, none⟩) n c)
  | agg (xs ys : List Value) (hl : xs.length = ys.length) (h : ∀ (i : Nat) (v v' : Value), xs[i]? = some v → ys[i]? = some v' → Rn B ks v v') : Rn B ks (.agg ⟨xs⟩) (.agg ⟨ys⟩)
  | tuple (xs ys : List Value) (hl : xs.length = ys.length) (h : ∀ (i : Nat) (v v' : Value), xs[i]? = some v → ys[i]? = some v' → Rn B ks v v') : Rn B ks (.tuple ⟨xs⟩) (.tuple ⟨ys⟩)
  | func (f : FuncId) (xs ys : List Value) (hl : xs.length = ys.length) (h : ∀ (i : Nat) (v v' : Value), xs[i]? = some v → ys[i]? = some v' → Rn B ks v v') : Rn B ks (.func (.func f) #[] ⟨xs⟩) (.func (.func f) #[] ⟨ys⟩)
/-- The renaming after a cut. -/
def cutR (ι : Ren) (B : Nat) (ks : List Nat) : Ren := fun j => if j < B then ι j else match ks[j - B]? with | some k => ι (B + k) | none => none
theorem cutR_lt (ι : Ren) (B : Nat) (ks : List Nat) {j : Nat} (h : j < B) : cutR ι B ks j = ι j := by simp [cutR, h]
theorem cutR_new (ι : Ren) (B : Nat) {ks : List Nat} {i k : Nat} (h : ks[i]? = some k) : cutR ι B ks (B + i) = ι (B + k) := by
  have : ¬ B + i < B := by omega
  simp [cutR, h, this]
theorem Rn.run {ι : Ren} {ks : List Nat} {v v2 : Value} (h : Rn B ks v v2) : ∀ v', VRel ι v v' → VRel (cutR ι B ks) v2 v' := by
  induction h with
  | lt v h => intro v' r; exact h ι _ v' (fun id hi => cutR_lt ι B ks hi) r
  | ptr b b2 i k o hk hb hb2 =>
    intro v' r; subst hb; subst hb2
    cases r with | ptr _ _ L hL => exact .ptr _ _ L (by rw [cutR_new ι B hk]; exact hL)
  | sl b b2 i k o n c hk hb hb2 =>
    intro v' r; subst hb; subst hb2
    cases r with | sl _ _ _ _ L a' c' hL h2 h3 h4 h5 h6 => exact .sl _ _ _ _ L a' c' (by rw [cutR_new ι B hk]; exact hL) h2 h3 h4 h5 h6
  | agg xs ys hl h ih =>
    intro v' r
    cases r with | agg _ zs hl2 h2 =>
      refine .agg _ _ (hl.symm.trans hl2) fun i v v' hv hv' => ?_
      have hi : i < xs.length := by rw [hl]; exact (List.getElem?_eq_some_iff.1 hv).1
      exact ih i xs[i] v (by simp [hi]) hv v' (h2 i xs[i] v' (by simp [hi]) hv')
  | tuple xs ys hl h ih =>
    intro v' r
    cases r with | tuple _ zs hl2 h2 =>
      refine .tuple _ _ (hl.symm.trans hl2) fun i v v' hv hv' => ?_
      have hi : i < xs.length := by rw [hl]; exact (List.getElem?_eq_some_iff.1 hv).1
      exact ih i xs[i] v (by simp [hi]) hv v' (h2 i xs[i] v' (by simp [hi]) hv')
  | func f xs ys hl h ih =>
    intro v' r
    cases r with | func _ _ zs hl2 h2 =>
      refine .func f _ _ (hl.symm.trans hl2) fun i v v' hv hv' => ?_
      have hi : i < xs.length := by rw [hl]; exact (List.getElem?_eq_some_iff.1 hv).1
      exact ih i xs[i] v (by simp [hi]) hv v' (h2 i xs[i] v' (by simp [hi]) hv')
def LRn (B : Nat) (ks : List Nat) (xs ys : List Value) : Prop := xs.length = ys.length ∧ ∀ (i : Nat) (v v' : Value), xs[i]? = some v → ys[i]? = some v' → Rn B ks v v'
/-- Rows that are kept. -/
def RnB (B : Nat) (ks : List Nat) (x : Option (Option Blk)) (y : Option Blk) : Prop :=
  match y with
  | none => True
  | some b2 => ∃ b, x = some (some b) ∧ b2.sz = b.sz ∧ b2.wr = b.wr ∧ (b2.fl = true → b.fl = true) ∧ ((b.fl = true ∧ b2.cells = b.cells) ∨ LRn B ks b.cells b2.cells)
def RnBs (B : Nat) (ks : List Nat) (bs : List (Option Blk)) : List Nat → List (Option Blk) → Prop
  | [], [] => True
  | k :: r, y :: ys => RnB B ks bs[k]? y ∧ RnBs B ks bs r ys
  | _, _ => False
theorem RnBs.at {ks : List Nat} {bs : List (Option Blk)} : ∀ {r : List Nat} {ys : List (Option Blk)}, RnBs B ks bs r ys → r.length = ys.length ∧ ∀ (i : Nat) (y : Option Blk), ys[i]? = some y → ∃ k, r[i]? = some k ∧ RnB B ks bs[k]? y
  | [], [], _ => ⟨rfl, fun i y h => by simp at h⟩
  | k :: r, y :: ys, h => by
    obtain ⟨e1, e2⟩ := RnBs.at h.2
    refine ⟨by simp [e1], fun i z hz => ?_⟩
    cases i with
    | zero => simp at hz; subst hz; exact ⟨k, by simp, h.1⟩
    | succ i => simpa using e2 i z (by simpa using hz)
  | [], _ :: _, h => h.elim
  | _ :: _, [], h => h.elim
/-- Cutting the heap. -/
theorem HRel.cut {w0 w : World} {ι : Ren} {H0 : Heap} {bs ys : List (Option Blk)} {ks : List Nat} (h : HRel w0 ι (H0 ++ bs) w) (ho : OC H0.length (H0 ++ bs)) (hd : ks.Nodup) (hk : RnBs H0.length ks bs ks ys) :
    HRel w0 (cutR ι H0.length ks) (H0 ++ ys) w := by
  obtain ⟨hlen, hat⟩ := hk.at
  -- what stands at a place of the new heap
  have place : ∀ (j : Nat) (b2 : Blk), (H0 ++ ys)[j]? = some (some b2) → ∃ (i : Nat) (b : Blk), cutR ι H0.length ks j = ι i ∧ (H0 ++ bs)[i]? = some (some b) ∧ b2.sz = b.sz ∧ b2.wr = b.wr ∧ (b2.fl = true → b.fl = true) ∧ b2.cells.length = b.cells.length ∧
      (∀ (q : Nat) (v2 : Value), b2.cells[q]? = some v2 → ∃ v, b.cells[q]? = some v ∧ (flatV v = true → v2 = v) ∧ ∀ v', VRel ι v v' → VRel (cutR ι H0.length ks) v2 v') ∧ (j < H0.length → i = j) ∧ (H0.length ≤ j → ∃ k, ks[j - H0.length]? = some k ∧ i = H0.length + k) := by
    intro j b2 hj
    by_cases hlt : j < H0.length
    · rw [List.getElem?_append_left hlt] at hj
      refine ⟨j, b2, cutR_lt _ _ _ hlt, by rw [List.getElem?_append_left hlt]; exact hj, rfl, rfl, id, rfl, fun q v2 hv => ⟨v2, hv, fun _ => rfl, fun v' hr => ?_⟩, fun _ => rfl, fun hge => by omega⟩
      have := ho j b2 v2 hlt (by rw [List.getElem?_append_left hlt]; exact hj) (List.mem_of_getElem? hv)
      exact this ι _ v' (fun id hi => cutR_lt _ _ _ hi) hr
    · have hge : H0.length ≤ j := by omega
      rw [List.getElem?_append_right hge] at hj
      obtain ⟨k, hk1, b, hb, e1, e2, e3, e4⟩ := hat _ _ hj
      have hj2 : j = H0.length + (j - H0.length) := by omega
      refine ⟨H0.length + k, b, by rw [hj2, cutR_new _ _ (by simpa using hk1)], by rw [List.getElem?_append_right (by omega)]; simpa using hb, e1, e2, e3, ?_, ?_, fun hh => by omega, fun _ => ⟨k, hk1, rfl⟩⟩
      · rcases e4 with ⟨_, e4⟩ | e4
        · rw [e4]
        · exact e4.1.symm
      · intro q v2 hv
        rcases e4 with ⟨hf, e4⟩ | e4
        · rw [e4] at hv
          have hfl := h.flat (H0.length + k) b (by rw [List.getElem?_append_right (by omega)]; simpa using hb) hf v2 (List.mem_of_getElem? hv)
          exact ⟨v2, hv, fun _ => rfl, fun v' hr => by have := hr.flat_eq hfl; subst this; exact .flat hfl⟩
        · have hq : q < b.cells.length := by rw [e4.1]; exact (List.getElem?_eq_some_iff.1 hv).1
          have hrn := e4.2 q b.cells[q] v2 (by simp [hq]) hv
          refine ⟨b.cells[q], by simp [hq], fun hf => ?_, fun v' hr => hrn.run v' hr⟩
          revert hf hrn; generalize b.cells[q] = u; intro hrn hf
          cases hrn <;> first | rfl | simp [flatV] at hf
  refine ⟨h.below, ?_, ?_, ?_, ?_, ?_, h.glob⟩
  · intro j L hj
    simp only [cutR] at hj
    split at hj
    · simp; omega
    · split at hj
      · rename_i k hk2
        have := (List.getElem?_eq_some_iff.1 hk2).1
        simp; omega
      · simp at hj
  · intro j L b2 hj hb2
    obtain ⟨i, b, p1, p2, p3, p4, p5, p6, p7, _⟩ := place j b2 hb2
    rw [p1] at hj
    obtain ⟨c, e, fr, q1, q2, q3, q4, q5, q6⟩ := h.blk i L b hj p2
    refine ⟨c, e, fr, q1, q2, by rw [p6]; exact q3, by rw [q4, p3], ?_, by rw [p4]; exact q6⟩
    intro q v2 hv
    obtain ⟨v, r1, _, r2⟩ := p7 q v2 hv
    obtain ⟨v', r3, r4⟩ := q5 q v r1
    exact ⟨v', r3, r2 v' r4⟩
  · intro i j L M b b2 hi hj hne hbi hw hbj
    obtain ⟨i1, b1, p1, p2, _, p4, _, _, _, p8, p9⟩ := place i b hbi
    obtain ⟨j1, b3, r1, r2, _, r4, _, _, _, r8, r9⟩ := place j b2 hbj
    rw [p1] at hi; rw [r1] at hj
    refine h.sep i1 j1 L M b1 b3 hi hj ?_ p2 (by rw [← p4]; exact hw) r2
    intro he
    by_cases ci : i < H0.length
    · by_cases cj : j < H0.length
      · exact hne (by rw [← p8 ci, ← r8 cj]; exact he)
      · obtain ⟨k, _, rk⟩ := r9 (by omega); have := p8 ci; omega
    · by_cases cj : j < H0.length
      · obtain ⟨k, _, rk⟩ := p9 (by omega); have := r8 cj; omega
      · obtain ⟨k, k1, k2⟩ := p9 (by omega)
        obtain ⟨l, l1, l2⟩ := r9 (by omega)
        have hkl : k = l := by omega
        subst hkl
        obtain ⟨z1, z2⟩ := List.getElem?_eq_some_iff.1 k1
        obtain ⟨z3, z4⟩ := List.getElem?_eq_some_iff.1 l1
        have hp := List.pairwise_iff_getElem.1 hd
        rcases Nat.lt_trichotomy (i - H0.length) (j - H0.length) with q | q | q
        · exact hp _ _ z1 z3 q (z2.trans z4.symm)
        · exact hne (by rw [← Nat.sub_add_cancel (Nat.le_of_not_lt ci), q, Nat.sub_add_cancel (Nat.le_of_not_lt cj)])
        · exact hp _ _ z3 z1 q (z4.trans z2.symm)
  · intro j b2 hb2 hf v hv
    obtain ⟨i, b, p1, p2, p3, p4, p5, p6, p7, _⟩ := place j b2 hb2
    obtain ⟨q, hq⟩ := List.mem_iff_getElem?.1 hv
    obtain ⟨u, r1, r2, _⟩ := p7 q v hq
    have hu := h.flat i b p2 (p5 hf) u (List.mem_of_getElem? r1)
    rw [r2 hu]; exact hu
  · intro j b2 hb2
    obtain ⟨i, b, p1, p2, p3, p4, p5, p6, p7, _⟩ := place j b2 hb2
    rcases h.tot i b p2 with ⟨L, hL⟩ | hq
    · exact .inl ⟨L, by rw [p1]; exact hL⟩
    · refine .inr fun v hv => ?_
      obtain ⟨q, hq2⟩ := List.mem_iff_getElem?.1 hv
      obtain ⟨u, r1, r2, _⟩ := p7 q v hq2
      have hu := hq u (List.mem_of_getElem? r1)
      rw [r2 hu]; exact hu
end
end Go.Proofs.Ytnmpgofhdjcpaaa.Eng
set_option linter.unusedVariables false
set_option linter.unusedSimpArgs false
namespace Go.Proofs.Ytnmpgofhdjcpaaa.Eng
open Go Go.RowKit
def liveAt (t : List Value) (i : Nat) : Option Value := match t[i]? with | some v => if isDead v = true then none else some v | none => none
def resA (T : Ty) (t : List Value) (H : Heap) : List ResultVar → Option (List Value)
  | [] => some []
  | .tmp i :: r => match liveAt t i, resA T t H r with | some v, some l => some (v :: l) | _, _ => none
  | .cell i ty :: r => match liveAt t i, resA T t H r with
    | some p, some l => match loadVarA T ty p H with | some v => some (v :: l) | none => none
    | _, _ => none
def packR : List Value → Value | [v] => v | vs => .tuple ⟨vs⟩
def resM (tm : Array Value) : ResultVar → Sem Value
  | .tmp t => pure (tm.getD t undef)
  | .cell a t => do loadVar t (← asAddr (tm.getD a undef))
theorem results_eq (fn : Func) (tm : Array Value) : results fn tm = (do let vs ← fn.results.mapM (resM tm); pure (if h : vs.size = 1 then vs[0] else .tuple vs)) := by
  unfold results
  congr 1
section
variable {P : Program} {T : Ty} {B : Nat} {t : List Value} {H : Heap} {Q : AQ}
theorem liveAt_rel {ι : Ren} {tm : Array Value} (hs : TS ι t tm) {i : Nat} {v : Value} (h : liveAt t i = some v) : VRel ι v (tm.getD i undef) := by
  unfold liveAt at h
  split at h
  · rename_i u hu
    split at h
    · simp at h
    · rename_i hd
      obtain rfl := Option.some.inj h
      have h1 : i < t.length := (List.getElem?_eq_some_iff.1 hu).1
      have h2 : i < tm.size := by rw [← hs.1]; exact h1
      have := (hs.2 i _ tm[i] hu (by simp [h2])).live (by simpa using hd)
      simpa [Array.getD_eq_getD_getElem?, h2] using this
  · simp at h
theorem resA_run (hT : TyOk P T) {w0 w : World} {ι : Ren} {tm : Array Value} (hH : HRel w0 ι H w) (hs : TS ι t tm) : ∀ (rs : List ResultVar) (vs : List Value), resA T t H rs = some vs →
    ∃ vs', (rs.mapM (resM tm)).run P w = .ok vs' w ∧ LRel ι vs vs'
  | [], vs, h => by simp [resA] at h; subst h; exact ⟨[], by simp, .nil ι⟩
  | .tmp i :: rs, vs, h => by
    simp only [resA] at h
    split at h
    · rename_i v l hv hl
      obtain rfl := Option.some.inj h
      obtain ⟨vs', g1, g2⟩ := resA_run hT hH hs rs l hl
      exact ⟨tm.getD i undef :: vs', by rw [List.mapM_cons]; simp [resM, g1], .cons (liveAt_rel hs hv) g2⟩
    · simp at h
  | .cell i ty :: rs, vs, h => by
    simp only [resA] at h
    split at h
    · rename_i p l hp hl
      split at h
      · rename_i v hv
        obtain rfl := Option.some.inj h
        obtain ⟨vs', g1, g2⟩ := resA_run hT hH hs rs l hl
        have hr := liveAt_rel hs hp
        obtain ⟨v', k1, k2⟩ := loadVarA_run (P := P) hT hH hr hv
        refine ⟨v' :: vs', ?_, .cons k2 g2⟩
        have hload : (resM tm (.cell i ty)).run P w = .ok v' w := by
          simp only [resM]
          unfold loadVarA at hv
          split at hv
          · generalize tm.getD i undef = u at hr k1
            cases hr with
            | ptr b o L hL => simpa [Instr.loadAt, Instr.sureAddr, asAddr] using k1
          · simp at hv
        rw [List.mapM_cons, Sem.run_bind, hload]
        simp [g1]
      · simp at h
    · simp at h
/-- The heap that a caller gets. -/
def RetX (B : Nat) (v : Value) (H : Heap) (R : Value → Heap → Prop) : Prop :=
  ∃ (H0 : Heap) (bs ys : List (Option Blk)) (ks : List Nat) (v2 : Value), H = H0 ++ bs ∧ H0.length = B ∧ ks.Nodup ∧ RnBs H0.length ks bs ks ys ∧ Rn H0.length ks v v2 ∧ R v2 (H0 ++ ys)
theorem TS.start {ι : Ren} {args args' : List Value} (h : LRel ι args args') (n : Nat) : TS ι (args ++ List.replicate (n - args.length) undef) (⟨args'⟩ ++ Array.replicate (n - args'.length) undef) := by
  have hl := h.append (LRel.replicate (undef_rel ι) (n - args.length))
  refine ⟨by simp [h.1], fun i v v' h1 h2 => .inr (hl.2 i v v' h1 ?_)⟩
  rw [← Array.getElem?_toList] at h2
  simpa [h.1] using h2
theorem RetX.same {v : Value} {R : Value → Heap → Prop} (h : R v H) (hv : Lt H.length v) : RetX H.length v H R := ⟨H, [], [], [], v, by simp, rfl, .nil, trivial, .lt v hv, by simpa using h⟩
theorem RetX.drop {H0 : Heap} {bs : List (Option Blk)} {v : Value} {R : Value → Heap → Prop} (h : R v H0) (hv : Lt H0.length v) : RetX H0.length v (H0 ++ bs) R := ⟨H0, bs, [], [], v, rfl, rfl, .nil, trivial, .lt v hv, by simpa using h⟩
theorem Lt.tuple {vs : List Value} (h : ∀ v ∈ vs, Lt B v) : Lt B (.tuple ⟨vs⟩) := fun ι ι' v' hE r => by
  cases r with | tuple _ ys hl hr => exact .tuple _ _ hl fun i v v' h1 h2 => h v (List.mem_of_getElem? h1) ι ι' v' hE (hr i v v' h1 h2)
theorem Lt.agg {vs : List Value} (h : ∀ v ∈ vs, Lt B v) : Lt B (.agg ⟨vs⟩) := fun ι ι' v' hE r => by
  cases r with | agg _ ys hl hr => exact .agg _ _ hl fun i v v' h1 h2 => h v (List.mem_of_getElem? h1) ι ι' v' hE (hr i v v' h1 h2)
end
end Go.Proofs.Ytnmpgofhdjcpaaa.Eng
set_option linter.unusedVariables false
set_option linter.unusedSimpArgs false
namespace Go.Proofs.Ytnmpgofhdjcpaaa.Eng
open Go Go.RowKit
def flT (P : Program) : Nat → TypeId → Bool
  | 0, _ => false
  | n + 1, t => match P.underlying t with
    | some (.int _) | some .bool | some .string => true
    | some (.struct fs) => fs.toList.all fun f => flT P n f.type
    | some (.array _ e) => flT P n e
    | _ => false
def tyOf (P : Program) (t : TypeId) : Option TyD :=
  match P.info? t, P.underlying t with
  | some i, some u => match i.zero with
    | some z => if z.cells.toList.length = i.size ∧ z.cells.toList.all flatV = true then some ⟨u, i.size, i.bytes, z.cells.toList, flT P 9 t⟩ else none
    | none => none
  | _, _ => none
theorem tyOf_ok (P : Program) : TyOk P (tyOf P) := fun t d h => by
  unfold tyOf at h
  split at h
  · rename_i i u hi hu
    split at h
    · rename_i z hz
      split at h
      · rename_i hc
        obtain rfl := Option.some.inj h
        exact ⟨hu, ⟨i, z, hi, rfl, rfl, hz, rfl⟩, hc.1, hc.2⟩
      · simp at h
    · simp at h
  · simp at h
/-- Structs that may be compared. -/
def eqOf (P : Program) (t : Nat) : Bool := !P.stoodInHeld t && !P.eqGuardType P.depth t
theorem eqOf_ok (P : Program) : EqOk P (eqOf P) := fun t ht => by
  simpa [eqOf] using ht
section
variable {P : Program} {B : Nat} {t : List Value} {H : Heap} {Q : AQ}
theorem op_step {o : Oper} {K : Value → Heap → Prop} {v : Value} {H' : Heap} (h : opA (tyOf P) (eqOf P) B t H o = some (v, H')) (hk : K v H') : OpX P B o t H K :=
  OpX_op (tyOf_ok P) (eqOf_ok P) h hk
end
end Go.Proofs.Ytnmpgofhdjcpaaa.Eng
set_option linter.unusedVariables false
set_option linter.unusedSimpArgs false
namespace Go.Proofs.Ytnmpgofhdjcpaaa.Eng
open Go Go.RowKit
section
variable {P : Program} {B : Nat} {t : List Value} {H : Heap} {Q : AQ}
theorem Ex_sr {id : Nat} {ops : Array Oper} {y : Code} {t1 : List Value} {H1 : Heap} (h : RegX P B ops ops.toList t H (fun t' H' => t' = t1 ∧ H' = H1)) (k : Ex P B y t1 H1 Q) : Ex P B (.seq (.region id ops false) y) t H Q :=
  Ex_seq (Ex_region (regX_mono _ _ _ h fun t' H' ⟨e1, e2⟩ => by subst e1; subst e2; exact k))
  where regX_mono : ∀ (l : List Oper) (t : List Value) (H : Heap) {K K1 : List Value → Heap → Prop}, RegX P B ops l t H K1 → (∀ t H, K1 t H → K t H) → RegX P B ops l t H K
  | [], t, H, K, K1, h, hk => hk _ _ h
  | o :: r, t, H, K, K1, ⟨q, hq, h⟩, hk => ⟨q, hq, by
    split
    · rename_i e; rw [if_pos e] at h; exact OpX.mono h fun v H' h => regX_mono r _ _ h hk
    · rename_i e; rw [if_neg e] at h; exact regX_mono r _ _ h hk⟩
end
end Go.Proofs.Ytnmpgofhdjcpaaa.Eng
set_option linter.unusedVariables false
set_option linter.unusedSimpArgs false
namespace Go.Proofs.Ytnmpgofhdjcpaaa.Eng
open Go Go.RowKit
section
variable {P : Program} {T : Ty} {eqOk : Nat → Bool} {B : Nat} {t t' : List Value} {H : Heap}
theorem evAllL_congr : ∀ (xs : List Operand), (∀ x ∈ xs, evL t' x = evL t x) → evAllL t' xs = evAllL t xs
  | [], _ => rfl
  | x :: r, h => by simp only [evAllL]; rw [h x (by simp), evAllL_congr r fun y hy => h y (by simp [hy])]
theorem evParts_congr : ∀ (xs : List (Nat × Operand)), (∀ p ∈ xs, evL t' p.2 = evL t p.2) → evParts t' xs = evParts t xs
  | [], _ => rfl
  | (i, x) :: r, h => by
    have h1 := h (i, x) (by simp)
    simp only [evParts]; rw [h1, evParts_congr r fun y hy => h y (by simp [hy])]
theorem optInt_congr {x : Option Operand} (h : ∀ y ∈ x.toList, evL t' y = evL t y) : optInt t' x = optInt t x := by
  cases x with
  | none => rfl
  | some y => simp only [optInt]; rw [h y (by simp)]
theorem opA_congr {o : Oper} (h : ∀ x ∈ o.op.operands, ev t' x = ev t x) : opA T eqOk B t' H o = opA T eqOk B t H o := by
  have hL : ∀ x ∈ o.op.operands, evL t' x = evL t x := fun x hx => by simp only [evL, h x hx]
  obtain ⟨dst, op, ty0, pos, after, guard⟩ := o
  simp only at h hL
  cases op with
  | build ty ps =>
    simp only [opA]
    rw [evParts_congr ps.toList fun p hp => hL p.2 (by simp only [Op.operands, List.mem_toArray, List.mem_map]; exact ⟨p, by simpa using hp, rfl⟩)]
  | buildSlice ty n ps =>
    simp only [opA]
    rw [evParts_congr ps.toList fun p hp => hL p.2 (by simp only [Op.operands, List.mem_toArray, List.mem_map]; exact ⟨p, by simpa using hp, rfl⟩)]
  | makeFunc f first caps =>
    cases f <;> simp only [opA]
    rw [evAllL_congr caps.toList fun x hx => hL x (by simp only [Op.operands, Array.mem_append]; exact .inr (by simpa using hx))]
  | slice ty x lo hi mx =>
    simp only [opA]
    rw [hL x (by simp [Op.operands]), optInt_congr (x := lo) fun y hy => hL y (by cases lo <;> simp_all [Op.operands]), optInt_congr (x := hi) fun y hy => hL y (by cases hi <;> simp_all [Op.operands]), optInt_congr (x := mx) fun y hy => hL y (by cases mx <;> simp_all [Op.operands])]
  | call c =>
    obtain ⟨callee, args, tys⟩ := c
    cases callee with
    | builtin b =>
      simp only [opA]
      rw [evAllL_congr args.toList fun x hx => hL x (by simp only [Op.operands, Call.operands]; simp; simpa using hx)]
    | _ => rfl
  | alloc e => rfl
  | _ => first
    | rfl
    | (simp [Op.operands] at h hL; simp only [opA, h, hL])
/-- Operations that neither read nor change the heap. -/
def isPure (o : Oper) : Bool := match o.op with
  | .move _ | .assign _ | .pick _ _ _ | .build _ _ | .nilCheck _ | .binOp _ _ _ _ _ | .unOp _ _ _ | .convert _ _ _ | .makeFunc _ _ _ | .fieldAddr _ _ _ | .field _ _ _ | .indexAddr _ _ _ | .index _ _ _ | .extract _ _ => true
  | .call ⟨.builtin .len, _, _⟩ | .call ⟨.builtin .max, _, _⟩ | .call ⟨.builtin .min, _, _⟩ => true
  | _ => false
theorem map_pair_any {α : Type} {x : Option α} {H H1 : Heap} {v : α} (h : x.map (·, H) = some (v, H1)) : H1 = H ∧ ∀ G : Heap, x.map (·, G) = some (v, G) := by
  cases x <;> simp at h ⊢
  exact ⟨h.2.symm, h.1⟩
theorem opA_pure {o : Oper} {v : Value} {H1 : Heap} (hp : isPure o = true) (h : opA T eqOk B t H o = some (v, H1)) : H1 = H ∧ ∀ G : Heap, opA T eqOk B t G o = some (v, G) := by
  obtain ⟨dst, op, ty0, pos, after, guard⟩ := o
  cases op with
  | makeFunc f first caps =>
    cases f with
    | func f =>
      simp only [opA] at h ⊢
      split at h
      · rename_i h0
        simp only [h0, if_true]
        cases hl : evAllL t caps.toList <;> simp [hl] at h ⊢
        exact ⟨h.2.symm, h.1⟩
      · simp at h
    | _ => simp [opA] at h
  | call c =>
    obtain ⟨callee, args, tys⟩ := c
    cases callee with
    | builtin b =>
      simp only [opA] at h ⊢
      split at h
      · rename_i l hl
        cases b <;> simp [isPure] at hp <;> simp only [builtinA] at h ⊢ <;> split at h <;> first | (have := map_pair_any h; simp_all; done) | (simp at h; done) | simp_all
      · simp at h
    | _ => simp [opA] at h
  | _ => first
    | (simp [isPure] at hp; done)
    | (simp only [opA] at h ⊢
       repeat' split at h
       all_goals first
         | (simp at h; done)
         | (have := map_pair_any h; simp_all; done)
         | (simp_all; done))
end
end Go.Proofs.Ytnmpgofhdjcpaaa.Eng
set_option linter.unusedVariables false
set_option linter.unusedSimpArgs false
namespace Go.Proofs.Ytnmpgofhdjcpaaa.Eng
open Go Go.RowKit
/-- What goes before an operation, as bits. -/
def maskOf (tab : List Nat) (o : Oper) : Nat := o.after.toList.foldl (fun m e => if Region.binds .any e = true then m ||| (1 <<< e.on) ||| tab.getD e.on 0 else m) 0
def tabL : List Oper → List Nat → List Nat
  | [], tab => tab
  | o :: r, tab => tabL r (tab ++ [maskOf tab o])
def anc (ops : Array Oper) (i j : Nat) : Bool := ((tabL ops.toList []).getD i 0).testBit j
def isAllocO (o : Oper) : Bool := match o.op with | .alloc _ => true | .box _ _ => true | _ => false
def isReadO (o : Oper) : Bool := match o.op with | .load _ _ => true | .slice _ _ _ _ _ => true | _ => false
/-- Functions that are given flat values, answer with one, and leave all rows alone (a seat names them). -/
def QF : List Nat := [80]
def isQuietO (o : Oper) : Bool := match o.op with | .call ⟨.value (.func f), _, _⟩ => QF.contains f | _ => false
def isHeapO (o : Oper) : Bool := !(isPure o || isAllocO o || isReadO o || isQuietO o)
def heapAt (ops : Array Oper) (i : Nat) : Bool := match ops[i]? with | some o => isHeapO o | none => false
def allocAt (ops : Array Oper) (i : Nat) : Bool := match ops[i]? with | some o => isAllocO o | none => false
/-- How many of the first i operations change the heap (make a variable). -/
def cntB (p : Nat → Bool) : Nat → Nat
  | 0 => 0
  | i + 1 => cntB p i + (if p i = true then 1 else 0)
def pairOk (ops : Array Oper) (i : Nat) (o : Oper) (j : Nat) (oj : Oper) : Bool :=
  (match oj.dst with
    | some d => (!(o.looksAt ops).contains d || anc ops i j || anc ops j i) && (i == j || o.dst != some d)
    | none => true) &&
  (!(isHeapO o && isHeapO oj) || i == j || anc ops i j || anc ops j i)
def drawOk (ops : Array Oper) : Bool :=
  (List.range ops.size).all fun i => match ops[i]? with
    | none => false
    | some o => o.after.toList.all (fun e => !Region.binds .any e || decide (e.on < i)) && (List.range ops.size).all fun j => match ops[j]? with
      | none => false
      | some oj => pairOk ops i o j oj
/-- The heaps at which operation i may read. -/
def mayAt (ops : Array Oper) (i k : Nat) : Bool :=
  (List.range ops.size).all fun j => !heapAt ops j || ((!anc ops i j || decide (cntB (heapAt ops) j < k)) && (!anc ops j i || decide (k ≤ cntB (heapAt ops) j)))
section
variable {P : Program} {B : Nat} {t : List Value} {H : Heap} {Q : AQ} {ops : Array Oper}
theorem drawOk_at (h : drawOk ops = true) {i : Nat} {o : Oper} (hi : ops[i]? = some o) : (∀ e ∈ o.after.toList, Region.binds .any e = true → e.on < i) ∧ ∀ (j : Nat) (oj : Oper), ops[j]? = some oj → pairOk ops i o j oj = true := by
  have hlt : i < ops.size := (Array.getElem?_eq_some_iff.1 hi).1
  have := List.all_eq_true.1 h i (by simpa using hlt)
  rw [hi] at this
  simp only [Bool.and_eq_true] at this
  refine ⟨fun e he hb => by have := List.all_eq_true.1 this.1 e he; rw [hb] at this; simpa using this, fun j oj hj => ?_⟩
  have hjt : j < ops.size := (Array.getElem?_eq_some_iff.1 hj).1
  have h2 := List.all_eq_true.1 this.2 j (by simpa using hjt)
  rw [hj] at h2
  exact h2
theorem heapAt_some {i : Nat} (h : heapAt ops i = true) : ∃ o, ops[i]? = some o ∧ isHeapO o = true := by
  unfold heapAt at h
  split at h
  · exact ⟨_, by assumption, h⟩
  · simp at h
/-- What is listed is closed under what goes before. -/
def Closed (ops : Array Oper) (L : Nat → Bool) : Prop := ∀ (i : Nat) (o : Oper), L i = true → ops[i]? = some o → ∀ e ∈ o.after.toList, Region.binds .any e = true → L e.on = true
def ReadyAt (ops : Array Oper) (L : Nat → Bool) (i : Nat) : Prop := ∀ o, ops[i]? = some o → ∀ e ∈ o.after.toList, Region.binds .any e = true → L e.on = true
theorem mask_bit (tab : List Nat) (j : Nat) : ∀ (es : List Edge) (m : Nat), (es.foldl (fun m e => if Region.binds .any e = true then m ||| (1 <<< e.on) ||| tab.getD e.on 0 else m) m).testBit j = true →
    m.testBit j = true ∨ ∃ e ∈ es, Region.binds .any e = true ∧ (j = e.on ∨ (tab.getD e.on 0).testBit j = true)
  | [], m, h => .inl h
  | e :: es, m, h => by
    simp only [List.foldl_cons] at h
    rcases mask_bit tab j es _ h with h1 | ⟨e', he', h2⟩
    · split at h1
      · rename_i hb
        simp only [Nat.testBit_or, Bool.or_eq_true, Nat.one_shiftLeft, Nat.testBit_two_pow, decide_eq_true_eq] at h1
        rcases h1 with (h1 | h1) | h1
        · exact .inl h1
        · exact .inr ⟨e, by simp, hb, .inl h1.symm⟩
        · exact .inr ⟨e, by simp, hb, .inr h1⟩
      · exact .inl h1
    · exact .inr ⟨e', by simp [he'], h2⟩
theorem tabL_at : ∀ (r : List Oper) (tab : List Nat), (tabL r tab).length = tab.length + r.length ∧ (∀ k, k < tab.length → (tabL r tab)[k]? = tab[k]?) ∧
    ∀ (k : Nat) (o : Oper), r[k]? = some o → (tabL r tab)[tab.length + k]? = some (maskOf ((tabL r tab).take (tab.length + k)) o)
  | [], tab => ⟨by simp [tabL], fun _ _ => rfl, fun k o h => by simp at h⟩
  | o :: r, tab => by
    obtain ⟨h1, h2, h3⟩ := tabL_at r (tab ++ [maskOf tab o])
    refine ⟨by simp only [tabL, h1]; simp; omega, fun k hk => ?_, fun k o' hk => ?_⟩
    · simp only [tabL]
      rw [h2 k (by simp; omega), List.getElem?_append_left hk]
    · simp only [tabL]
      cases k with
      | zero =>
        simp at hk; subst hk
        rw [Nat.add_zero, h2 tab.length (by simp)]
        have : (tabL r (tab ++ [maskOf tab o])).take tab.length = tab := by
          apply List.ext_getElem?
          intro q
          rw [List.getElem?_take]
          by_cases hq : q < tab.length
          · rw [if_pos hq, h2 q (by simp; omega), List.getElem?_append_left hq]
          · rw [if_neg hq, List.getElem?_eq_none (by omega)]
        rw [this]; simp
      | succ k =>
        have := h3 k o' (by simpa using hk)
        simp only [List.length_append, List.length_cons, List.length_nil, Nat.zero_add] at this
        rw [show tab.length + (k + 1) = tab.length + 1 + k by omega]
        exact this
theorem anc_cases {i j : Nat} (h : anc ops i j = true) : ∃ o, ops[i]? = some o ∧ ∃ e ∈ o.after.toList, Region.binds .any e = true ∧ (j = e.on ∨ (e.on < i ∧ anc ops e.on j = true)) := by
  unfold anc at h
  obtain ⟨h1, _, h3⟩ := tabL_at ops.toList []
  have hlt : i < ops.size := by
    by_cases hi : i < ops.size
    · exact hi
    · rw [List.getD_eq_getElem?_getD, List.getElem?_eq_none (by rw [h1]; simp; omega)] at h; simp at h
  have ho : ops[i]? = some ops[i] := by simp [hlt]
  have hm := h3 i ops[i] (by rw [Array.getElem?_toList]; exact ho)
  simp only [List.length_nil, Nat.zero_add] at hm
  rw [List.getD_eq_getElem?_getD, hm] at h
  refine ⟨_, ho, ?_⟩
  rw [Option.getD_some] at h
  unfold maskOf at h
  rcases mask_bit _ j _ _ h with hz | ⟨e, he, hb, hc⟩
  · simp at hz
  · refine ⟨e, he, hb, hc.imp (fun q => q) fun hc => ?_⟩
    rw [List.getD_eq_getElem?_getD, List.getElem?_take] at hc
    split at hc
    · rename_i hl
      exact ⟨hl, by unfold anc; rw [List.getD_eq_getElem?_getD]; exact hc⟩
    · simp at hc
theorem ancs_listed {L : Nat → Bool} (hc : Closed ops L) : ∀ (i j : Nat), ReadyAt ops L i → anc ops i j = true → L j = true := by
  intro i
  induction i using Nat.strongRecOn with
  | _ i ih =>
    intro j hr h
    obtain ⟨o, ho, e, he, hb, h2⟩ := anc_cases h
    have hl := hr o ho e he hb
    rcases h2 with rfl | ⟨hlt, h2⟩
    · exact hl
    · exact ih e.on hlt j (fun o' ho' e' he' hb' => hc e.on o' hl ho' e' he' hb') h2
theorem ancs_lt (h : drawOk ops = true) : ∀ (i j : Nat), anc ops i j = true → j < i := by
  intro i
  induction i using Nat.strongRecOn with
  | _ i ih =>
    intro j h2
    obtain ⟨o, ho, e, he, hb, h3⟩ := anc_cases h2
    have hlt := (drawOk_at h ho).1 e he hb
    rcases h3 with rfl | ⟨_, h3⟩
    · exact hlt
    · exact Nat.lt_trans (ih e.on hlt j h3) hlt
theorem cntB_mono {p : Nat → Bool} {i j : Nat} (h : i ≤ j) : cntB p i ≤ cntB p j := by
  induction h with
  | refl => exact Nat.le_refl _
  | step h ih => simp only [cntB]; omega
theorem cntB_lt {p : Nat → Bool} {i j : Nat} (h : i < j) (hp : p i = true) : cntB p i < cntB p j := by
  have : cntB p (i + 1) ≤ cntB p j := cntB_mono h
  simp only [cntB, hp, if_true] at this
  omega
theorem cntB_congr {p q : Nat → Bool} : ∀ (n : Nat), (∀ i, i < n → p i = q i) → cntB p n = cntB q n
  | 0, _ => rfl
  | n + 1, h => by simp only [cntB]; rw [cntB_congr n fun i hi => h i (by omega), h n (by omega)]
theorem cntB_none {p : Nat → Bool} {m : Nat} : ∀ (n : Nat), m ≤ n → (∀ i, m ≤ i → i < n → p i = false) → cntB p n = cntB p m
  | 0, h, _ => by have : m = 0 := by omega
                  subst this; rfl
  | n + 1, h, hp => by
    by_cases e : m = n + 1
    · subst e; rfl
    · simp only [cntB, hp n (by omega) (by omega)]
      have := cntB_none n (by omega) fun i hi hj => hp i hi (by omega)
      simpa using this
/-- The heap operations that are listed are the first ones. -/
theorem heap_first (h : drawOk ops = true) {L : Nat → Bool} (hc : Closed ops L) {j : Nat} (hj : heapAt ops j = true) (hn : j < ops.size) :
    L j = true ↔ cntB (heapAt ops) j < cntB (fun i => heapAt ops i && L i) ops.size := by
  -- a listed one has all elder ones listed
  have elder : ∀ a b : Nat, a < b → heapAt ops a = true → heapAt ops b = true → L b = true → L a = true := by
    intro a b hab ha hb hlb
    obtain ⟨oa, hoa, ha⟩ := heapAt_some ha
    obtain ⟨ob, hob, hb⟩ := heapAt_some hb
    have hp := (drawOk_at h hob).2 a oa hoa
    simp only [pairOk, Bool.and_eq_true] at hp
    have h2 := hp.2
    simp only [ha, hb, Bool.and_self, Bool.not_true, Bool.false_or, Bool.or_eq_true, beq_iff_eq] at h2
    rcases h2 with (h2 | h2) | h2
    · omega
    · exact ancs_listed hc b a (fun o' ho' e' he' hb' => hc b o' hlb ho' e' he' hb') h2
    · have := ancs_lt h _ _ h2; omega
  constructor
  · intro hl
    have e1 : cntB (heapAt ops) j = cntB (fun i => heapAt ops i && L i) j := cntB_congr j fun i hi => by
      by_cases hh : heapAt ops i = true
      · simp [elder i j hi hh hj hl]
      · simp [hh]
    rw [e1]
    exact cntB_lt hn (by simp [hj, hl])
  · intro hlt
    by_cases hl : L j = true
    · exact hl
    · exfalso
      have e1 : cntB (fun i => heapAt ops i && L i) ops.size = cntB (fun i => heapAt ops i && L i) j := cntB_none ops.size (by omega) fun i hi hi2 => by
        by_cases hh : heapAt ops i = true
        · by_cases e : i = j
          · subst e; simp [hl]
          · cases hli : L i
            · simp
            · exact absurd (elder j i (by omega) hj hh hli) hl
        · simp [hh]
      have e2 : cntB (fun i => heapAt ops i && L i) j ≤ cntB (heapAt ops) j := by
        have : ∀ n, cntB (fun i => heapAt ops i && L i) n ≤ cntB (heapAt ops) n := by
          intro n
          induction n with
          | zero => exact Nat.le_refl _
          | succ n ih => simp only [cntB]; by_cases hh : heapAt ops n = true <;> by_cases hL : L n = true <;> simp [hh, hL] <;> omega
        exact this j
      omega
/-- A heap operation that is ready comes next. -/
theorem heap_next (h : drawOk ops = true) {L : Nat → Bool} (hc : Closed ops L) {j : Nat} (hj : heapAt ops j = true) (hn : j < ops.size) (hl : L j = false) (hr : ReadyAt ops L j) :
    cntB (fun i => heapAt ops i && L i) ops.size = cntB (heapAt ops) j := by
  have elder : ∀ a, a < j → heapAt ops a = true → L a = true := by
    intro a hab ha
    obtain ⟨oa, hoa, ha⟩ := heapAt_some ha
    obtain ⟨ob, hob, hj'⟩ := heapAt_some hj
    have hp := (drawOk_at h hob).2 a oa hoa
    simp only [pairOk, Bool.and_eq_true] at hp
    have h2 := hp.2
    simp only [ha, hj', Bool.and_self, Bool.not_true, Bool.false_or, Bool.or_eq_true, beq_iff_eq] at h2
    rcases h2 with (h2 | h2) | h2
    · omega
    · exact ancs_listed hc j a hr h2
    · have := ancs_lt h _ _ h2; omega
  have e1 : cntB (heapAt ops) j = cntB (fun i => heapAt ops i && L i) j := cntB_congr j fun i hi => by
    by_cases hh : heapAt ops i = true
    · simp [elder i hi hh]
    · simp [hh]
  rw [e1]
  refine cntB_none ops.size (by omega) fun i hi hi2 => ?_
  by_cases hh : heapAt ops i = true
  · by_cases e : i = j
    · subst e; simp [hl]
    · cases hli : L i
      · simp
      · have := (heap_first h hc hh hi2).1 hli
        have h3 : cntB (heapAt ops) j < cntB (heapAt ops) i := cntB_lt (by omega) hj
        have := (heap_first h hc hj hn).2 (by omega)
        rw [hl] at this; simp at this
  · simp [hh]
/-- Where an operation may stand. -/
theorem may_ok (h : drawOk ops = true) {L : Nat → Bool} (hc : Closed ops L) {i : Nat} (hl : L i = false) (hr : ReadyAt ops L i) : mayAt ops i (cntB (fun i => heapAt ops i && L i) ops.size) = true := by
  refine List.all_eq_true.2 fun j hj => ?_
  have hj' : j < ops.size := by simpa using hj
  by_cases hh : heapAt ops j = true
  · simp only [hh, Bool.not_true, Bool.false_or, Bool.and_eq_true, Bool.or_eq_true, Bool.not_eq_true', decide_eq_true_eq]
    constructor
    · by_cases hm : anc ops i j = true
      · exact .inr ((heap_first h hc hh hj').1 (ancs_listed hc _ _ hr hm))
      · exact .inl (by simpa using hm)
    · by_cases hm : anc ops j i = true
      · refine .inr (Nat.le_of_not_lt fun hlt => ?_)
        have hlj := (heap_first h hc hh hj').2 hlt
        have := ancs_listed hc j i (fun o' ho' e' he' hb' => hc j o' hlj ho' e' he' hb') hm
        rw [hl] at this; simp at this
      · exact .inl (by simpa using hm)
  · simp [hh]
end
end Go.Proofs.Ytnmpgofhdjcpaaa.Eng
set_option linter.unusedVariables false
set_option linter.unusedSimpArgs false
namespace Go.Proofs.Ytnmpgofhdjcpaaa.Eng
open Go Go.RowKit
section
variable {P : Program} {B : Nat} {t : List Value} {H : Heap} {Q : AQ} {ops : Array Oper}
/-- A variable that was laid ahead is made. -/
theorem HRel.adopt {w0 w : World} {ι : Ren} (h : HRel w0 ι H w) {id : Nat} {b : Blk} {e : TypeId} (hi : ι id = none) (hb : H[id]? = some (some b)) (hf : ∀ v ∈ b.cells, flatV v = true) :
    HRel w0 (upd ι id ⟨w.heap.size, 0, b.cells.length, b.sz⟩) H (w.alloc (.cells ⟨b.cells⟩ e)) := by
  have hext : ∀ j L, ι j = some L → upd ι id ⟨w.heap.size, 0, b.cells.length, b.sz⟩ j = some L := fun j L hj => by
    by_cases e : j = id
    · subst e; rw [hi] at hj; simp at hj
    · simp [upd, e, hj]
  have updo : ∀ j, j ≠ id → upd ι id ⟨w.heap.size, 0, b.cells.length, b.sz⟩ j = ι j := fun j e => by simp [upd, e]
  have updn : upd ι id ⟨w.heap.size, 0, b.cells.length, b.sz⟩ id = some ⟨w.heap.size, 0, b.cells.length, b.sz⟩ := by simp [upd]
  have hnew := heap_alloc_new w (.cells ⟨b.cells⟩ e)
  have hold : ∀ k, k < w.heap.size → (w.alloc (.cells ⟨b.cells⟩ e)).heap[k]? = w.heap[k]? := fun k hk => heap_alloc_old w _ k hk
  refine ⟨h.below.trans ⟨rfl, rfl, rfl, ?_, fun k hk => hold k (by have := h.n0; omega)⟩, ?_, ?_, ?_, h.flat, ?_, h.glob⟩
  · show w.heap.size ≤ (w.heap.push _).size; simp
  · intro j L hj
    by_cases e : j = id
    · subst e; exact (List.getElem?_eq_some_iff.1 hb).1
    · rw [updo j e] at hj; exact h.dom j L hj
  · intro j L b1 hj hbj
    by_cases e : j = id
    · subst e
      rw [updn] at hj; obtain rfl := Option.some.inj hj
      rw [hb] at hbj; obtain rfl := Option.some.inj (Option.some.inj hbj)
      refine ⟨_, _, _, hnew, by simp, Nat.le_refl _, rfl, fun k v hv => ⟨v, by simpa using hv, .flat (hf v (List.mem_of_getElem? hv))⟩, fun _ => ⟨h.n0, rfl⟩⟩
    · rw [updo j e] at hj
      obtain ⟨c, e1, fr, hc, h1, h2, h3, h4, h5⟩ := h.blk j L b1 hj hbj
      refine ⟨c, e1, fr, ?_, h1, h2, h3, fun k v hv => ?_, h5⟩
      · rw [hold _ (Array.getElem?_eq_some_iff.1 hc).1]; exact hc
      · obtain ⟨v', g1, g2⟩ := h4 k v hv; exact ⟨v', g1, g2.mono hext⟩
  · intro i j L M b1 b2 hi1 hj1 hne h1 hw h2
    by_cases e1 : i = id
    · subst e1
      rw [updn] at hi1; obtain rfl := Option.some.inj hi1
      rw [updo j (Ne.symm hne)] at hj1
      have := h.lt hj1 h2
      simp only; omega
    · rw [updo i e1] at hi1
      by_cases e2 : j = id
      · subst e2
        rw [updn] at hj1; obtain rfl := Option.some.inj hj1
        have := h.lt hi1 h1
        simp only; omega
      · rw [updo j e2] at hj1
        exact h.sep i j L M b1 b2 hi1 hj1 hne h1 hw h2
  · intro j b1 hbj
    exact (h.tot j b1 hbj).imp (fun ⟨L, hL⟩ => ⟨L, hext _ _ hL⟩) (fun q => q)
/-- Whether a variable is written by an operation that has not run. -/
def unl (ops : Array Oper) (L : Nat → Bool) (j : Nat) : Bool := (List.range ops.size).any fun i => match ops[i]? with | some o => !L i && o.dst == some j | none => false
def maskT (ops : Array Oper) (L : Nat → Bool) (t0 tf : List Value) : List Value := tf.mapIdx fun j v => if unl ops L j = true then (t0[j]?).getD dead else v
theorem mask_get (L : Nat → Bool) (t0 tf : List Value) (j : Nat) : (maskT ops L t0 tf)[j]? = tf[j]?.map fun v => if unl ops L j = true then (t0[j]?).getD dead else v := by
  simp [maskT, List.getElem?_mapIdx]
theorem unl_iff {L : Nat → Bool} {j : Nat} : unl ops L j = true ↔ ∃ i o, ops[i]? = some o ∧ L i = false ∧ o.dst = some j := by
  unfold unl
  rw [List.any_eq_true]
  constructor
  · rintro ⟨i, hi, h⟩
    split at h
    · rename_i o ho
      simp only [Bool.and_eq_true, Bool.not_eq_true', beq_iff_eq] at h
      exact ⟨i, o, ho, h.1, h.2⟩
    · simp at h
  · rintro ⟨i, o, ho, h1, h2⟩
    exact ⟨i, by simpa using (Array.getElem?_eq_some_iff.1 ho).1, by simp [ho, h1, h2]⟩
/-- What an operation that changes the heap does. -/
def DoesP (P : Program) (B : Nat) (o : Oper) (t : List Value) (H : Heap) (v : Value) (H' : Heap) : Prop :=
  opA (tyOf P) (eqOf P) B t H o = some (v, H') ∨
  ∃ (fo : Operand) (args : Array Operand) (tys : Array TypeId) (f : FuncId) (caps zas : List Value), o.op = .call ⟨.value fo, args, tys⟩ ∧ evL t fo = some (.func (.func f) #[] ⟨caps⟩) ∧ evAllL t args.toList = some zas ∧ Runs P f (zas ++ caps) H (fun u G => u = v ∧ G = H')
theorem DoesP.congr {o : Oper} {t t' : List Value} {v : Value} {H' : Heap} (h : ∀ x ∈ o.op.operands, ev t' x = ev t x) (hd : DoesP P B o t H v H') : DoesP P B o t' H v H' := by
  have hL : ∀ x ∈ o.op.operands, evL t' x = evL t x := fun x hx => by simp only [evL, h x hx]
  rcases hd with hd | ⟨fo, args, tys, f, caps, zas, e1, e2, e3, e4⟩
  · exact .inl (by rw [opA_congr h]; exact hd)
  · refine .inr ⟨fo, args, tys, f, caps, zas, e1, ?_, ?_, e4⟩
    · rw [hL fo (by rw [e1]; simp [Op.operands, Call.operands])]; exact e2
    · rw [evAllL_congr args.toList fun x hx => hL x (by rw [e1]; simp [Op.operands, Call.operands]; exact .inr (by simpa using hx))]; exact e3
theorem DoesP.step {o : Oper} {t : List Value} {v : Value} {H' : Heap} (hd : DoesP P B o t H v H') : OpX P B o t H (fun u G => u = v ∧ G = H') := by
  rcases hd with hd | ⟨fo, args, tys, f, caps, zas, e1, e2, e3, e4⟩
  · exact op_step hd ⟨rfl, rfl⟩
  · exact OpX_call e1 e2 e3 e4 fun u G h => h
/-- A call that leaves all rows alone, whatever they are. -/
def QuietP (P : Program) (o : Oper) (t : List Value) (v : Value) : Prop :=
  ∃ (fo : Operand) (args : Array Operand) (tys : Array TypeId) (f : FuncId) (caps zas : List Value), o.op = .call ⟨.value fo, args, tys⟩ ∧ evL t fo = some (.func (.func f) #[] ⟨caps⟩) ∧ evAllL t args.toList = some zas ∧ ∀ G : Heap, Runs P f (zas ++ caps) G (fun u G' => u = v ∧ G' = G)
theorem QuietP.congr {o : Oper} {t t' : List Value} {v : Value} (h : ∀ x ∈ o.op.operands, ev t' x = ev t x) (hd : QuietP P o t v) : QuietP P o t' v := by
  have hL : ∀ x ∈ o.op.operands, evL t' x = evL t x := fun x hx => by simp only [evL, h x hx]
  obtain ⟨fo, args, tys, f, caps, zas, e1, e2, e3, e4⟩ := hd
  refine ⟨fo, args, tys, f, caps, zas, e1, ?_, ?_, e4⟩
  · rw [hL fo (by rw [e1]; simp [Op.operands, Call.operands])]; exact e2
  · rw [evAllL_congr args.toList fun x hx => hL x (by rw [e1]; simp [Op.operands, Call.operands]; exact .inr (by simpa using hx))]; exact e3
/-- What an operation that leaves the heap alone does: a variable that is made was laid ahead. -/
def ReadP (P : Program) (B : Nat) (o : Oper) (t : List Value) (H : Heap) (v : Value) (id : Nat) : Prop :=
  match o.op with
  | .alloc e => ∃ d, tyOf P e = some d ∧ v = .pointer (some ⟨id, 0, none⟩) ∧ getB H id = some ⟨d.zero, 0, true, d.fl⟩
  | .box e x => ∃ d u, tyOf P e = some d ∧ evL t x = some u ∧ cellsL u = d.zero ∧ v = .pointer (some ⟨id, 0, none⟩) ∧ getB H id = some ⟨d.zero, 0, true, d.fl⟩
  | .call ⟨.value _, _, _⟩ => QuietP P o t v
  | _ => opA (tyOf P) (eqOf P) B t H o = some (v, H)
structure Facts (P : Program) (B : Nat) (ops : Array Oper) (base : Nat) (t0 tf : List Value) (Tf : Nat → List Value) (W : Nat → Bool) (V : Nat → Value) (Hs : Nat → Heap) : Prop where
  ok : drawOk ops = true
  want : ∀ (i : Nat) (o : Oper), ops[i]? = some o → wantedA ops o (Tf i) = some (W i)
  skip : ∀ (i : Nat) (o : Oper), ops[i]? = some o → W i = false → V i = undef
  heap : ∀ (i : Nat) (o : Oper), ops[i]? = some o → isHeapO o = true → if W i = true then DoesP P B o (Tf i) (Hs (cntB (heapAt ops) i)) (V i) (Hs (cntB (heapAt ops) i + 1)) else Hs (cntB (heapAt ops) i + 1) = Hs (cntB (heapAt ops) i)
  read : ∀ (i : Nat) (o : Oper) (k : Nat), ops[i]? = some o → isHeapO o = false → W i = true → mayAt ops i k = true → k ≤ cntB (heapAt ops) ops.size → ReadP P B o (Tf i) (Hs k) (V i) (base + cntB (allocAt ops) i)
  frameL : ∀ (i : Nat) (o : Oper) (x : Nat), ops[i]? = some o → x ∈ o.looksAt ops → (∃ j oj, ops[j]? = some oj ∧ oj.dst = some x ∧ i ≤ j) → (Tf i)[x]? = t0[x]?
  frameE : ∀ (i : Nat) (o : Oper) (x : Nat), ops[i]? = some o → x ∈ o.looksAt ops → (¬ ∃ j oj, ops[j]? = some oj ∧ oj.dst = some x ∧ i ≤ j) → (Tf i)[x]? = tf[x]?
  len0 : t0.length = tf.length
  dst : ∀ (i : Nat) (o : Oper) (d : Nat) (v : Value), ops[i]? = some o → o.dst = some d → tf[d]? = some v → v = V i
theorem operand_known {base : Nat} {t0 tf : List Value} {Tf : Nat → List Value} {W : Nat → Bool} {V : Nat → Value} {Hs : Nat → Heap} (F : Facts P B ops base t0 tf Tf W V Hs) {L : Nat → Bool} (hc : Closed ops L) {i : Nat} {o : Oper} (hi : ops[i]? = some o) (hl : L i = false) (hr : ReadyAt ops L i) {x : Nat} (hx : x ∈ o.looksAt ops) : (maskT ops L t0 tf)[x]? = (Tf i)[x]? := by
  rw [mask_get]
  by_cases h : unl ops L x = true
  · obtain ⟨j, oj, hj, hlj, hd⟩ := unl_iff.1 h
    have hp := (drawOk_at F.ok hi).2 j oj hj
    simp only [pairOk, hd, Bool.and_eq_true, Bool.or_eq_true, Bool.not_eq_true'] at hp
    have hlt : i < j := by
      rcases hp.1.1 with (h1 | h1) | h1
      · have : (o.looksAt ops).contains x = true := by simpa using hx
        rw [h1] at this; simp at this
      · have := ancs_listed hc _ _ hr h1
        rw [hlj] at this; simp at this
      · exact ancs_lt F.ok _ _ h1
    rw [F.frameL i o x hi hx ⟨j, oj, hj, hd, by omega⟩]
    simp only [h, if_true]
    by_cases hxl : x < tf.length
    · have hxl0 : x < t0.length := by rw [F.len0]; exact hxl
      rw [List.getElem?_eq_getElem hxl, List.getElem?_eq_getElem hxl0]; rfl
    · have hl0 := F.len0
      rw [List.getElem?_eq_none (show tf.length ≤ x by omega), List.getElem?_eq_none (show t0.length ≤ x by omega)]; rfl
  · have hno : ¬ ∃ j oj, ops[j]? = some oj ∧ oj.dst = some x ∧ i ≤ j := by
      rintro ⟨j, oj, hj, hd, hij⟩
      have hlj : L j = true := by
        cases q : L j
        · exact absurd (unl_iff.2 ⟨j, oj, hj, q, hd⟩) h
        · rfl
      have hp := (drawOk_at F.ok hi).2 j oj hj
      simp only [pairOk, hd, Bool.and_eq_true, Bool.or_eq_true, Bool.not_eq_true'] at hp
      rcases hp.1.1 with (h1 | h1) | h1
      · have : (o.looksAt ops).contains x = true := by simpa using hx
        rw [h1] at this; simp at this
      · have := ancs_lt F.ok _ _ h1; omega
      · have := ancs_listed hc j i (fun o' ho' e' he' hb' => hc j o' hlj ho' e' he' hb') h1
        rw [hl] at this; simp at this
    rw [F.frameE i o x hi hx hno]
    have h' : unl ops L x = false := by simpa using h
    simp [h']
theorem ev_known {base : Nat} {t0 tf : List Value} {Tf : Nat → List Value} {W : Nat → Bool} {V : Nat → Value} {Hs : Nat → Heap} (F : Facts P B ops base t0 tf Tf W V Hs) {L : Nat → Bool} (hc : Closed ops L) {i : Nat} {o : Oper} (hi : ops[i]? = some o) (hl : L i = false) (hr : ReadyAt ops L i) : ∀ x ∈ o.op.operands, ev (maskT ops L t0 tf) x = ev (Tf i) x := by
  intro x hx
  cases x with
  | tmp y =>
    simp only [ev]
    refine operand_known F hc hi hl hr ?_
    unfold Oper.looksAt
    exact List.mem_append_left _ (List.mem_filterMap.2 ⟨.tmp y, by simpa using hx, rfl⟩)
  | _ => rfl
theorem want_known {base : Nat} {t0 tf : List Value} {Tf : Nat → List Value} {W : Nat → Bool} {V : Nat → Value} {Hs : Nat → Heap} (F : Facts P B ops base t0 tf Tf W V Hs) {L : Nat → Bool} (hc : Closed ops L) {i : Nat} {o : Oper} (hi : ops[i]? = some o) (hl : L i = false) (hr : ReadyAt ops L i) : wantedA ops o (maskT ops L t0 tf) = wantedA ops o (Tf i) := by
  unfold wantedA
  cases hg : o.guard with
  | none => rfl
  | some gw =>
    obtain ⟨g, want⟩ := gw
    simp only
    cases hd : (ops[g]?).bind (·.dst) with
    | none => rfl
    | some d =>
      simp only [Option.bind_some]
      rw [operand_known F hc hi hl hr (x := d)]
      unfold Oper.looksAt
      refine List.mem_append_right _ ?_
      simp [hg, hd]
/-- One more operation has run. -/
theorem mask_step {L : Nat → Bool} {t0 tf : List Value} {Tf : Nat → List Value} {W : Nat → Bool} {V : Nat → Value} {Hs : Nat → Heap} {base : Nat} (F : Facts P B ops base t0 tf Tf W V Hs) {i : Nat} {o : Oper} (hi : ops[i]? = some o) {ι : Ren} {a : Act} {v' : Value}
    (h : TS ι (maskT ops L t0 tf) a.tmps) (hv : TRel ι (V i) v') : TS ι (maskT ops (fun j => j == i || L j) t0 tf) (a.put o.dst v').tmps := by
  have hp := h.putT o.dst hv
  refine ⟨by rw [← hp.1]; cases o.dst <;> simp [putT, maskT], fun j v u h1 h2 => ?_⟩
  rw [mask_get] at h1
  cases htf : tf[j]? with
  | none => simp [htf] at h1
  | some w =>
    simp only [htf, Option.map_some, Option.some.injEq] at h1
    have hj : j < tf.length := (List.getElem?_eq_some_iff.1 htf).1
    by_cases hd : o.dst = some j
    · -- its own variable
      have hu : unl ops (fun j => j == i || L j) j = false := by
        cases hq : unl ops (fun j => j == i || L j) j
        · rfl
        · exfalso
          obtain ⟨k, ok, hk, hl, hdk⟩ := unl_iff.1 hq
          have hp2 := (drawOk_at F.ok hi).2 k ok hk
          simp only [pairOk, hdk, Bool.and_eq_true, Bool.or_eq_true, beq_iff_eq, bne_iff_ne] at hp2
          rcases hp2.1.2 with e | e
          · subst e; simp at hl
          · exact e hd
      simp only [hu, Bool.false_eq_true, if_false] at h1
      have hvi := F.dst i o j w hi hd htf
      refine hp.2 j v u ?_ h2
      rw [hd]
      simp only [putT]
      rw [List.getElem?_set]
      simp [maskT, hj, ← h1, hvi]
    · -- another's
      refine hp.2 j v u ?_ h2
      have : (putT (maskT ops L t0 tf) o.dst (V i))[j]? = (maskT ops L t0 tf)[j]? := by
        cases hd2 : o.dst with
        | none => rfl
        | some d => simp only [putT]; rw [List.getElem?_set, if_neg (fun e => hd (by rw [hd2, e]))]
      rw [this, mask_get, htf]
      simp only [Option.map_some, Option.some.injEq]
      rw [← h1]
      have : unl ops L j = unl ops (fun j => j == i || L j) j := by
        rw [Bool.eq_iff_iff, unl_iff, unl_iff]
        constructor
        · rintro ⟨k, ok, hk, hl, hdk⟩
          refine ⟨k, ok, hk, ?_, hdk⟩
          have : k ≠ i := fun e => by subst e; rw [hi] at hk; obtain rfl := Option.some.inj hk; exact hd hdk
          simp [this, hl]
        · rintro ⟨k, ok, hk, hl, hdk⟩
          refine ⟨k, ok, hk, ?_, hdk⟩
          simp at hl; exact hl.2
      rw [this]
end
end Go.Proofs.Ytnmpgofhdjcpaaa.Eng
set_option linter.unusedVariables false
set_option linter.unusedSimpArgs false
namespace Go.Proofs.Ytnmpgofhdjcpaaa.Eng
open Go Go.RowKit
section
variable {P : Program} {B : Nat} {t : List Value} {H : Heap} {Q : AQ} {ops : Array Oper}
/-- What holds while a region runs in an order that was drawn. -/
structure DInv (P : Program) (B : Nat) (ops : Array Oper) (base : Nat) (t0 tf : List Value) (Hs : Nat → Heap) (w0 : World) (ι0 : Ren) (H0 : Heap) (L : Nat → Bool) (ι : Ren) (a : Act) (w : World) : Prop where
  closed : Closed ops L
  ts : TS ι (maskT ops L t0 tf) a.tmps
  df : a.defers = []
  rel : HRel w0 ι (Hs (cntB (fun i => heapAt ops i && L i) ops.size)) w
  oc : OC B (Hs (cntB (fun i => heapAt ops i && L i) ops.size))
  ext : Ext B ι0 ι
  ocs : OCs B H0 (Hs (cntB (fun i => heapAt ops i && L i) ops.size))
  lb : B ≤ base
  len : base + cntB (allocAt ops) ops.size ≤ (Hs (cntB (fun i => heapAt ops i && L i) ops.size)).length
  fresh : ∀ i, i < ops.size → allocAt ops i = true → L i = false → ι (base + cntB (allocAt ops) i) = none
theorem closed_step {L : Nat → Bool} (hc : Closed ops L) {i : Nat} (hr : ReadyAt ops L i) : Closed ops (fun j => j == i || L j) := fun j o hl ho e he hb => by
  simp only [Bool.or_eq_true, beq_iff_eq] at hl ⊢
  rcases hl with rfl | hl
  · exact .inr (hr o ho e he hb)
  · exact .inr (hc j o hl ho e he hb)
theorem cntB_add {p : Nat → Bool} {i : Nat} : ∀ (n : Nat), i < n → p i = false → cntB (fun j => j == i || p j) n = cntB p n + 1
  | 0, h, _ => by omega
  | n + 1, h, hp => by
    simp only [cntB]
    by_cases e : i = n
    · subst e
      have : cntB (fun j => j == i || p j) i = cntB p i := cntB_congr i fun k hk => by simp [Nat.ne_of_lt hk]
      simp [this, hp]
    · rw [cntB_add n (by omega) hp]
      have : (n == i) = false := by simp; exact fun q => e q.symm
      simp only [this, Bool.false_or]
      omega
theorem cnt_heap {L : Nat → Bool} {i : Nat} (hn : i < ops.size) (hl : L i = false) (hh : heapAt ops i = true) : cntB (fun j => heapAt ops j && (j == i || L j)) ops.size = cntB (fun j => heapAt ops j && L j) ops.size + 1 := by
  rw [← cntB_add (p := fun j => heapAt ops j && L j) ops.size hn (by simp [hl])]
  refine cntB_congr _ fun k _ => ?_
  by_cases e : k = i
  · subst e; simp [hh]
  · have e' : (k == i) = false := by simpa using e
    simp only [e', Bool.false_or]
theorem cnt_calm {L : Nat → Bool} {i : Nat} (hh : heapAt ops i = false) : cntB (fun j => heapAt ops j && (j == i || L j)) ops.size = cntB (fun j => heapAt ops j && L j) ops.size := by
  refine cntB_congr _ fun k _ => ?_
  by_cases e : k = i
  · subst e; simp [hh]
  · have e' : (k == i) = false := by simpa using e
    simp only [e', Bool.false_or]
theorem alloc_inj {i j : Nat} (hi : allocAt ops i = true) (hj : allocAt ops j = true) (h : cntB (allocAt ops) i = cntB (allocAt ops) j) : i = j := by
  rcases Nat.lt_trichotomy i j with q | q | q
  · have := cntB_lt (p := allocAt ops) q hi; omega
  · exact q
  · have := cntB_lt (p := allocAt ops) q hj; omega
theorem cntB_le {p : Nat → Bool} {i n : Nat} (hi : i < n) (hp : p i = true) : cntB p i < cntB p n := cntB_lt hi hp
theorem cntB_sub {p q : Nat → Bool} : ∀ (n : Nat), (∀ i, p i = true → q i = true) → cntB p n ≤ cntB q n
  | 0, _ => Nat.le_refl _
  | n + 1, h => by
    have := cntB_sub n h
    simp only [cntB]
    by_cases e : p n = true
    · simp [e, h n e]; exact this
    · simp [e]; omega
theorem LRel.flat_eq {ι : Ren} {xs ys : List Value} (h : LRel ι xs ys) (hf : ∀ v ∈ xs, flatV v = true) : ys = xs := by
  refine List.ext_getElem h.1.symm fun i h1 h2 => ?_
  exact (h.2 i xs[i] ys[i] (by simp) (by simp)).flat_eq (hf _ (List.getElem_mem h2))
/-- One operation, wherever it is drawn. -/
theorem draw_step {base : Nat} {t0 tf : List Value} {Tf : Nat → List Value} {W : Nat → Bool} {V : Nat → Value} {Hs : Nat → Heap} (F : Facts P B ops base t0 tf Tf W V Hs) {w0 : World} {ι0 : Ren} {H0 : Heap} {L : Nat → Bool} {ι : Ren} {a : Act} {w : World} (I : DInv P B ops base t0 tf Hs w0 ι0 H0 L ι a w)
    {i : Nat} {o : Oper} (hi : ops[i]? = some o) (hl : L i = false) (hr : ReadyAt ops L i) {Qx : Exit → Act → World → Prop} {K : Act → World → Prop}
    (hK : ∀ ι' a' w', DInv P B ops base t0 tf Hs w0 ι0 H0 (fun j => j == i || L j) ι' a' w' → K a' w') : wpOp P ops Qx i K a w := by
  have hn : i < ops.size := (Array.getElem?_eq_some_iff.1 hi).1
  have hw := want_known F I.closed hi hl hr
  rw [F.want i o hi] at hw
  have hwr := wantedA_run I.ts hw
  have hcl := closed_step I.closed hr
  have hev := ev_known F I.closed hi hl hr
  have hlen : B ≤ (Hs (cntB (fun i => heapAt ops i && L i) ops.size)).length := by have := I.lb; have := I.len; omega
  have hheap : heapAt ops i = isHeapO o := by simp [heapAt, hi]
  have halloc : allocAt ops i = isAllocO o := by simp [allocAt, hi]
  -- a step that leaves the heap's count as it is told
  have fin : ∀ (ι' : Ren) (v' : Value) (w' : World) (k' : Nat), k' = cntB (fun j => heapAt ops j && (j == i || L j)) ops.size → HRel w0 ι' (Hs k') w' → TRel ι' (V i) v' → (∀ id L, ι id = some L → ι' id = some L) → Ext B ι ι' →
      OCs B (Hs (cntB (fun i => heapAt ops i && L i) ops.size)) (Hs k') → (Hs (cntB (fun i => heapAt ops i && L i) ops.size)).length ≤ (Hs k').length → (∀ j, j < ops.size → allocAt ops j = true → j ≠ i → L j = false → ι' (base + cntB (allocAt ops) j) = none) → K (a.put o.dst v') w' := by
    intro ι' v' w' k' hk h1 h2 h3 h4 h5 h6 h7
    subst hk
    refine hK ι' _ w' ⟨hcl, mask_step F hi (I.ts.mono h3) h2, by cases o.dst <;> exact I.df, h1, h5 B (Nat.le_refl _) I.oc, I.ext.trans h4 (Nat.le_refl _), I.ocs.trans h5, I.lb, Nat.le_trans I.len h6, fun j hj ha hlj => ?_⟩
    simp only [Bool.or_eq_false_iff, beq_eq_false_iff_ne] at hlj
    exact h7 j hj ha hlj.1 hlj.2
  unfold wpOp
  rw [hi]
  simp only
  rw [hwr]
  cases hW : W i with
  | false =>
    simp only [Bool.false_eq_true, if_false]
    have hv : TRel ι (V i) undef := by rw [F.skip i o hi hW]; exact .inr (undef_rel ι)
    cases hh : heapAt ops i with
    | false =>
      exact fin ι undef w _ (cnt_calm hh).symm I.rel hv (fun _ _ h => h) (.refl _ _) (.refl _ _) (Nat.le_refl _) (fun j hj ha _ hlj => I.fresh j hj ha hlj)
    | true =>
      have hpos := heap_next F.ok I.closed hh hn hl hr
      have hf := F.heap i o hi (by rw [← hheap]; exact hh)
      rw [hW] at hf
      simp only [Bool.false_eq_true, if_false] at hf
      rw [← hpos] at hf
      refine fin ι undef w _ (cnt_heap hn hl hh).symm ?_ hv (fun _ _ h => h) (.refl _ _) ?_ ?_ (fun j hj ha _ hlj => I.fresh j hj ha hlj)
      · rw [hf]; exact I.rel
      · rw [hf]; exact .refl _ _
      · rw [hf]; exact Nat.le_refl _
  | true =>
    simp only [if_true]
    refine .inl ?_
    have other : ∀ ι', Ext (Hs (cntB (fun i => heapAt ops i && L i) ops.size)).length ι ι' → ∀ j, j < ops.size → allocAt ops j = true → L j = false → ι' (base + cntB (allocAt ops) j) = none := fun ι' hE j hj ha hlj => by
      rw [hE _ (by have := I.len; have := cntB_le (p := allocAt ops) hj ha; omega)]
      exact I.fresh j hj ha hlj
    cases hh : heapAt ops i with
    | true =>
      have hpos := heap_next F.ok I.closed hh hn hl hr
      have hf := F.heap i o hi (by rw [← hheap]; exact hh)
      rw [hW] at hf
      simp only [if_true] at hf
      rw [← hpos] at hf
      have hd := (hf.congr hev).step
      refine Oper.wp_mono ?_ (hd w0 ι w a Qx I.rel I.ts hlen)
      rintro a' w' ⟨v, v', H', ι', rfl, ⟨rfl, rfl⟩, h2, h3, h4, h5, h6⟩
      exact fin ι' v' w' _ (cnt_heap hn hl hh).symm h3 h2 (I.rel.ext h4) (h4.mono hlen) h5 h6 (fun j hj ha _ hlj => other ι' h4 j hj ha hlj)
    | false =>
      have hk : cntB (fun i => heapAt ops i && L i) ops.size ≤ cntB (heapAt ops) ops.size := cntB_sub _ fun j hj => by simp at hj; exact hj.1
      have hf := F.read i o _ hi (by rw [← hheap]; exact hh) hW (may_ok F.ok I.closed hl hr) hk
      by_cases ha : isAllocO o = true
      · obtain ⟨dd, op, ty, ps, af, g⟩ := o
        cases op <;> simp [isAllocO] at ha
        · rename_i e
          simp only [ReadP] at hf
          obtain ⟨d, hT, hV, hb⟩ := hf
          have hid := I.fresh i hn (by rw [halloc]; rfl) hl
          obtain ⟨z, hz, hzc⟩ := (tyOf_ok P).zeroValue (w := w) hT
          have hfl := ((tyOf_ok P) _ d hT).zflat
          have hfl' : ∀ v ∈ d.zero, flatV v = true := fun v hv => (List.all_eq_true.1 hfl) v hv
          have hrun : (execOp a.eval ⟨dd, .alloc e, ty, ps, af, g⟩).run P w = .ok (.value (.pointer (some ⟨w.heap.size, 0, none⟩))) (w.alloc (.cells ⟨d.zero⟩ e)) := by
            have : z.cells = ⟨d.zero⟩ := Array.ext' hzc
            simp [execOp, Instr.alloc, hz, newVar, newRow, this]
          have had := I.rel.adopt (e := e) hid (getB_eq.1 hb) hfl'
          unfold Oper.wp
          rw [hrun]
          refine fin _ _ _ _ (cnt_calm hh).symm had (.inr ?_) ?_ ?_ (.refl _ _) (Nat.le_refl _) ?_
          · rw [hV]; exact .ptr _ 0 ⟨w.heap.size, 0, d.zero.length, 0⟩ (by simp [upd])
          · intro id M hM
            by_cases e1 : id = base + cntB (allocAt ops) i
            · subst e1; rw [hid] at hM; simp at hM
            · simp [upd, e1, hM]
          · intro id hlt
            have := I.lb
            simp [upd, show id ≠ base + cntB (allocAt ops) i by omega]
          · intro j hj haj hne hlj
            have : base + cntB (allocAt ops) j ≠ base + cntB (allocAt ops) i := fun e1 => hne (alloc_inj haj (by rw [halloc]; rfl) (by omega))
            simp only [upd, this, if_false]
            exact I.fresh j hj haj hlj
        · rename_i e x
          simp only [ReadP] at hf
          obtain ⟨d, u, hT, hux, huz, hV, hb⟩ := hf
          have hid := I.fresh i hn (by rw [halloc]; rfl) hl
          obtain ⟨z, hz, hzc⟩ := (tyOf_ok P).zeroValue (w := w) hT
          have hfl := ((tyOf_ok P) _ d hT).zflat
          have hfl' : ∀ v ∈ d.zero, flatV v = true := fun v hv => (List.all_eq_true.1 hfl) v hv
          have hx2 : evL (maskT ops L t0 tf) x = some u := by
            have h9 := hev x (by simp [Op.operands])
            simp only [evL, h9] at hux ⊢; exact hux
          have hcr := cells_rel (evL_rel I.ts hx2)
          rw [huz] at hcr
          have hcz := hcr.flat_eq hfl'
          have hrun : (execOp a.eval ⟨dd, .box e x, ty, ps, af, g⟩).run P w = .ok (.value (.pointer (some ⟨w.heap.size, 0, none⟩))) (w.alloc (.cells ⟨d.zero⟩ e)) := by
            have : (a.eval x).cells = ⟨d.zero⟩ := Array.ext' (by rw [← cellsL_eq, hcz])
            simp [execOp, Instr.box, newVar, newRow, this]
          have had := I.rel.adopt (e := e) hid (getB_eq.1 hb) hfl'
          unfold Oper.wp
          rw [hrun]
          refine fin _ _ _ _ (cnt_calm hh).symm had (.inr ?_) ?_ ?_ (.refl _ _) (Nat.le_refl _) ?_
          · rw [hV]; exact .ptr _ 0 ⟨w.heap.size, 0, d.zero.length, 0⟩ (by simp [upd])
          · intro id M hM
            by_cases e1 : id = base + cntB (allocAt ops) i
            · subst e1; rw [hid] at hM; simp at hM
            · simp [upd, e1, hM]
          · intro id hlt
            have := I.lb
            simp [upd, show id ≠ base + cntB (allocAt ops) i by omega]
          · intro j hj haj hne hlj
            have : base + cntB (allocAt ops) j ≠ base + cntB (allocAt ops) i := fun e1 => hne (alloc_inj haj (by rw [halloc]; rfl) (by omega))
            simp only [upd, this, if_false]
            exact I.fresh j hj haj hlj
      · have hdo : DoesP P B o (Tf i) (Hs (cntB (fun i => heapAt ops i && L i) ops.size)) (V i) (Hs (cntB (fun i => heapAt ops i && L i) ops.size)) := by
          unfold ReadP at hf
          split at hf
          · rename_i e he; simp [isAllocO, he] at ha
          · rename_i e x he; simp [isAllocO, he] at ha
          · obtain ⟨fo', args', tys', f, caps, zas, e1, e2, e3, e4⟩ := hf
            exact .inr ⟨fo', args', tys', f, caps, zas, e1, e2, e3, e4 _⟩
          · exact .inl hf
        have hd := (hdo.congr hev).step
        refine Oper.wp_mono ?_ (hd w0 ι w a Qx I.rel I.ts hlen)
        rintro a' w' ⟨v, v', H', ι', rfl, ⟨rfl, rfl⟩, h2, h3, h4, h5, h6⟩
        exact fin ι' v' w' _ (cnt_calm hh).symm h3 h2 (I.rel.ext h4) (h4.mono hlen) h5 h6 (fun j hj ha _ hlj => other ι' h4 j hj ha hlj)
theorem listed_get {listed : Array Bool} {i : Nat} (hn : i < listed.size) : (fun j => j == i || listed.getD j false) = fun j => (listed.setIfInBounds i true).getD j false := by
  funext j
  simp only [Array.getD_eq_getD_getElem?, Array.getElem?_setIfInBounds]
  by_cases e : i = j
  · subst e; simp [hn]
  · have e' : (j == i) = false := by simp; exact fun q => e q.symm
    simp [e, e']
theorem ready_at {listed : Array Bool} {i : Nat} (hs : listed.size = ops.size) (h : i ∈ Region.ready .any ops listed) : ∃ o, ops[i]? = some o ∧ listed.getD i false = false ∧ ReadyAt ops (fun j => listed.getD j false) i := by
  unfold Region.ready at h
  obtain ⟨h1, h2⟩ := List.mem_filter.1 h
  have hn : i < ops.size := by simpa using h1
  simp only [Bool.and_eq_true, Bool.not_eq_true'] at h2
  refine ⟨ops[i], by simp [hn], ?_, ?_⟩
  · have := h2.1
    simp only [Array.getD_eq_getD_getElem?, Array.getElem?_eq_getElem (show i < listed.size by omega), Option.getD_some] at this ⊢
    exact this
  · intro o ho e he hb
    have h3 := h2.2
    rw [ho] at h3
    simp only [Option.map_some, Option.getD_some, Array.all_eq_true'] at h3
    have := h3 e (by simpa using he)
    simpa [hb] using this
theorem ready_none (hok : drawOk ops = true) {listed : Array Bool} (hs : listed.size = ops.size) (h : Region.ready .any ops listed = []) : ∀ i, i < ops.size → listed.getD i false = true := by
  intro i
  induction i using Nat.strongRecOn with
  | _ i ih =>
    intro hn
    cases hl : listed.getD i false
    · exfalso
      have hm : i ∈ Region.ready .any ops listed := by
        unfold Region.ready
        refine List.mem_filter.2 ⟨by simpa using hn, ?_⟩
        have ho : ops[i]? = some ops[i] := by simp [hn]
        rw [ho]
        simp only [Option.map_some, Option.getD_some, Bool.and_eq_true, Bool.not_eq_true', Array.all_eq_true']
        refine ⟨?_, fun e he => ?_⟩
        · simp only [Array.getD_eq_getD_getElem?, Array.getElem?_eq_getElem (show i < listed.size by omega), Option.getD_some] at hl ⊢
          exact hl
        · cases hb : Region.binds .any e with
          | false => simp
          | true =>
            have hlt := (drawOk_at hok ho).1 e (by simpa using he) hb
            rw [ih e.on hlt (by omega)]; simp
      rw [h] at hm; simp at hm
    · rfl
theorem mask_all {L : Nat → Bool} {t0 tf : List Value} (h : ∀ i, i < ops.size → L i = true) : maskT ops L t0 tf = tf := by
  apply List.ext_getElem?
  intro j
  rw [mask_get]
  have : unl ops L j = false := by
    cases hq : unl ops L j
    · rfl
    · obtain ⟨i, o, hi, hl, _⟩ := unl_iff.1 hq
      have := h i (Array.getElem?_eq_some_iff.1 hi).1
      rw [hl] at this; simp at this
  simp [this]
theorem draw_any {base : Nat} {t0 tf : List Value} {Tf : Nat → List Value} {W : Nat → Bool} {V : Nat → Value} {Hs : Nat → Heap} (F : Facts P B ops base t0 tf Tf W V Hs) {w0 : World} {ι0 : Ren} {H0 : Heap} (hq : Q .normal tf (Hs (cntB (heapAt ops) ops.size))) :
    ∀ (fuel : Nat) (listed : Array Bool) (ι : Ren) (a : Act) (w : World), listed.size = ops.size → fuel + cntB (fun j => listed.getD j false) ops.size = ops.size → DInv P B ops base t0 tf Hs w0 ι0 H0 (fun j => listed.getD j false) ι a w →
      wpAny P .any ops (Post w0 ι0 B H0 Q) fuel listed a w := by
  have done : ∀ (listed : Array Bool) (ι : Ren) (a : Act) (w : World), (∀ i, i < ops.size → listed.getD i false = true) → DInv P B ops base t0 tf Hs w0 ι0 H0 (fun j => listed.getD j false) ι a w → Post w0 ι0 B H0 Q .normal a w := by
    intro listed ι a w hall I
    have e : cntB (fun i => heapAt ops i && listed.getD i false) ops.size = cntB (heapAt ops) ops.size := cntB_congr _ fun i hi => by simp only [hall i hi, Bool.and_true]
    have h1 := I.rel; have h2 := I.ts; have h3 := I.ocs; have h4 := I.len; have h5 := I.lb
    rw [e] at h1 h3 h4
    rw [mask_all hall] at h2
    exact ⟨tf, _, ι, hq, h1, h2, I.df, I.ext, h3, by omega⟩
  intro fuel
  induction fuel with
  | zero =>
    intro listed ι a w hs hf I
    have hall : ∀ i, i < ops.size → listed.getD i false = true := by
      have key : ∀ (p : Nat → Bool) (n : Nat), cntB p n = n → ∀ i, i < n → p i = true := by
        intro p n
        have hle : ∀ n, cntB p n ≤ n := by
          intro n; induction n with
          | zero => exact Nat.le_refl _
          | succ n ih => simp only [cntB]; split <;> omega
        induction n with
        | zero => intro _ i hi; omega
        | succ n ih =>
          intro h i hi
          simp only [cntB] at h
          have := hle n
          by_cases hp : p n = true
          · by_cases e : i = n
            · subst e; exact hp
            · exact ih (by simp only [hp, if_true] at h; omega) i (by omega)
          · simp only [hp] at h; simp at h; omega
      exact key _ _ (by omega)
    refine ⟨?_, done listed ι a w hall I⟩
    unfold Region.ready
    refine List.filter_eq_nil_iff.2 fun i hi => ?_
    have hn : i < ops.size := by simpa using hi
    have := hall i hn
    simp only [Array.getD_eq_getD_getElem?, Array.getElem?_eq_getElem (show i < listed.size by omega), Option.getD_some] at this ⊢
    simp [this]
  | succ fuel ih =>
    intro listed ι a w hs hf I
    refine ⟨fun hr => done listed ι a w (ready_none F.ok hs hr) I, fun i hi => ?_⟩
    obtain ⟨o, ho, hl, hr⟩ := ready_at hs hi
    have hn : i < ops.size := (Array.getElem?_eq_some_iff.1 ho).1
    refine draw_step F I ho hl hr fun ι' a' w' I' => ?_
    rw [listed_get (by omega)] at I'
    refine ih _ ι' a' w' (by simp [hs]) ?_ I'
    rw [← listed_get (by omega), cntB_add ops.size hn hl]
    omega
/-- A region that draws its order. -/
theorem Ex_drawn (hm : P.follows .mixedOrders = true) {id : Nat} {base : Nat} {tf : List Value} {Tf : Nat → List Value} {pre : List (Option Blk)} {W : Nat → Bool} {V : Nat → Value} {Hs : Nat → Heap} (hb : base = H.length) (hp : pre.length = cntB (allocAt ops) ops.size)
    (hpf : ∀ b, some b ∈ pre → ∀ v ∈ b.cells, flatV v = true) (h0 : Hs 0 = H ++ pre) (hlen : t.length = tf.length) (hagree : ∀ j, unl ops (fun _ => false) j = false → t[j]? = tf[j]?)
    (F : Facts P B ops base t tf Tf W V Hs) (hq : Q .normal tf (Hs (cntB (heapAt ops) ops.size))) : Ex P B (.region id ops true) t H Q := fun w0 ι w a h1 h2 h3 h4 h5 => by
  refine wp_region_any hm (draw_any F hq ops.size _ ι a _ (by simp) ?_ ?_)
  · have : cntB (fun j => (Array.replicate ops.size false).getD j false) ops.size = 0 := by
      have : ∀ n, cntB (fun j => (Array.replicate ops.size false).getD j false) n = 0 := by
        intro n; induction n with
        | zero => rfl
        | succ n ih => simp only [cntB, ih]; simp [Array.getD_eq_getD_getElem?, Array.getElem?_replicate]; split <;> simp
      exact this _
    omega
  · have hL : (fun j => (Array.replicate ops.size false).getD j false) = fun _ => false := by
      funext j; simp [Array.getD_eq_getD_getElem?, Array.getElem?_replicate]; split <;> simp
    rw [hL]
    have hc0 : cntB (fun i => heapAt ops i && false) ops.size = 0 := by
      have : ∀ n, cntB (fun i => heapAt ops i && false) n = 0 := by
        intro n; induction n with
        | zero => rfl
        | succ n ih => simp only [cntB, Bool.and_false] at ih ⊢; rw [ih]; rfl
      exact this _
    have hrel : HRel w0 ι (H ++ pre) { w with drawn := w.drawn + 1 } := by
      have g := h1.drewW (w.drawn + 1) (Nat.le_succ _)
      have old : ∀ (j : Nat) (b : Blk) (L : Loc), ι j = some L → (H ++ pre)[j]? = some (some b) → H[j]? = some (some b) := fun j b L hj hb => by
        rw [List.getElem?_append_left (h1.dom j L hj)] at hb; exact hb
      refine ⟨g.below, fun j L hj => by have := h1.dom j L hj; simp; omega, fun j L b hj hb => g.blk j L b hj (old j b L hj hb), fun i j L M b b2 hi hj hne hbi hw hbj => g.sep i j L M b b2 hi hj hne (old i b L hi hbi) hw (old j b2 M hj hbj), ?_, ?_, g.glob⟩
      · intro j b hb hf v hv
        by_cases hlt : j < H.length
        · rw [List.getElem?_append_left hlt] at hb; exact h1.flat j b hb hf v hv
        · rw [List.getElem?_append_right (by omega)] at hb; exact hpf b (List.mem_of_getElem? hb) v hv
      · intro j b hb
        by_cases hlt : j < H.length
        · rw [List.getElem?_append_left hlt] at hb; exact h1.tot j b hb
        · rw [List.getElem?_append_right (by omega)] at hb; exact .inr (hpf b (List.mem_of_getElem? hb))
    have hocs : OCs B H (H ++ pre) := fun B' hB' ho j b v hj hb hv => by
      rw [List.getElem?_append_left (by omega)] at hb
      exact ho j b v hj hb hv
    refine ⟨fun i o hl => by simp at hl, ⟨by simp [maskT, ← hlen, h2.1], fun j v v' e1 e2 => ?_⟩, h3, ?_, ?_, .refl _ _, ?_, by omega, ?_, ?_⟩
    · rw [mask_get] at e1
      by_cases hu : unl ops (fun _ => false) j = true
      · simp only [hu, if_true] at e1
        cases htf : tf[j]? with
        | none => simp [htf] at e1
        | some u =>
          have hjl : j < t.length := by rw [hlen]; exact (List.getElem?_eq_some_iff.1 htf).1
          simp only [htf, Option.map_some, Option.some.injEq, List.getElem?_eq_getElem hjl, Option.getD_some] at e1
          exact h2.2 j v v' (by rw [List.getElem?_eq_getElem hjl, e1]) e2
      · have hu' : unl ops (fun _ => false) j = false := by simpa using hu
        simp only [hu', Bool.false_eq_true, if_false, Option.map_id'] at e1
        rw [← hagree j hu'] at e1
        exact h2.2 j v v' e1 e2
    · rw [hc0, h0]; exact hrel
    · rw [hc0, h0]; exact hocs B (Nat.le_refl _) h5
    · rw [hc0, h0]; exact hocs
    · rw [hc0, h0, hb]; simp [hp]
    · intro i hi ha _
      cases hq2 : ι (base + cntB (allocAt ops) i) with
      | none => rfl
      | some L => have := h1.dom _ L hq2; omega
end
end Go.Proofs.Ytnmpgofhdjcpaaa.Eng
set_option linter.unusedVariables false
set_option linter.unusedSimpArgs false
namespace Go.Proofs.Ytnmpgofhdjcpaaa.Eng
open Go Go.RowKit
section
variable {P : Program} {B : Nat} {t : List Value} {H : Heap} {Q : AQ} {ops : Array Oper} {base : Nat}
/-- The walk through a region in the text's order; what it yields is told in lists. -/
def DX (P : Program) (B : Nat) (ops : Array Oper) (base : Nat) : Nat → List Oper → List Value → Heap → List (Bool × Value) → List Heap → List Value → Heap → Prop
  | _, [], t, H, xs, hs, tf, Hf => xs = [] ∧ hs = [H] ∧ t = tf ∧ H = Hf
  | nal, o :: r, t, H, xs, hs, tf, Hf => ∃ (q : Bool) (v : Value) (xs' : List (Bool × Value)), xs = (q, v) :: xs' ∧ wantedA ops o t = some q ∧ (q = false → v = undef) ∧
    if isHeapO o = true then ∃ (H' : Heap) (hs' : List Heap), hs = H :: hs' ∧ (if q = true then DoesP P B o t H v H' else H' = H) ∧ DX P B ops base nal r (putT t o.dst v) H' xs' hs' tf Hf
    else (q = true → ReadP P B o t H v (base + nal)) ∧ DX P B ops base (nal + if isAllocO o = true then 1 else 0) r (putT t o.dst v) H xs' hs tf Hf
def cl (p : Oper → Bool) : List Oper → Nat → Nat
  | [], _ => 0
  | _ :: _, 0 => 0
  | o :: l, k + 1 => (if p o = true then 1 else 0) + cl p l k
theorem cl_zero (p : Oper → Bool) (l : List Oper) : cl p l 0 = 0 := by cases l <;> rfl
theorem cl_cntB (p : Oper → Bool) (f : Nat → Bool) : ∀ (l : List Oper) (k : Nat), k ≤ l.length → (∀ i o, l[i]? = some o → f i = p o) → cl p l k = cntB f k := by
  have key : ∀ (l : List Oper) (k : Nat) (f : Nat → Bool), k ≤ l.length → (∀ i o, l[i]? = some o → f i = p o) → cl p l k = cntB f k := by
    intro l
    induction l with
    | nil => intro k f hk _; have : k = 0 := by simpa using hk
             subst this; rfl
    | cons o l ih =>
      intro k f hk h
      cases k with
      | zero => rfl
      | succ k =>
        simp only [cl]
        rw [ih k (fun i => f (i + 1)) (by simpa using hk) (fun i o' ho => h (i + 1) o' (by simpa using ho))]
        have h0 := h 0 o rfl
        have sh : ∀ k, cntB f (k + 1) = (if f 0 = true then 1 else 0) + cntB (fun i => f (i + 1)) k := by
          intro k
          induction k with
          | zero => simp [cntB]
          | succ k ih2 => rw [cntB, ih2, cntB]; omega
        rw [sh, h0]
  exact fun l k => key l k f
theorem putT_len (t : List Value) (d : Option Tmp) (v : Value) : (putT t d v).length = t.length := by cases d <;> simp [putT]
theorem putT_ne {t : List Value} {d : Option Tmp} {v : Value} {j : Nat} (h : d ≠ some j) : (putT t d v)[j]? = t[j]? := by
  cases d with
  | none => rfl
  | some i => simp only [putT]; rw [List.getElem?_set, if_neg (fun e => h (by rw [e]))]
theorem DX_at : ∀ (l : List Oper) (nal : Nat) (t : List Value) (H : Heap) (xs : List (Bool × Value)) (hs : List Heap) (tf : List Value) (Hf : Heap), DX P B ops base nal l t H xs hs tf Hf →
    hs[0]? = some H ∧ hs[cl isHeapO l l.length]? = some Hf ∧ t.length = tf.length ∧ (∀ j, (∀ o ∈ l, o.dst ≠ some j) → t[j]? = tf[j]?) ∧
    ∀ (k : Nat) (o : Oper), l[k]? = some o → ∃ (q : Bool) (v : Value) (tk : List Value) (Hk : Heap), xs[k]? = some (q, v) ∧ hs[cl isHeapO l k]? = some Hk ∧ (∀ j, (∀ (k' : Nat) (o' : Oper), k ≤ k' → l[k']? = some o' → o'.dst ≠ some j) → tk[j]? = tf[j]?) ∧ wantedA ops o tk = some q ∧ (q = false → v = undef) ∧
      (isHeapO o = true → ∃ H', hs[cl isHeapO l k + 1]? = some H' ∧ (if q = true then DoesP P B o tk Hk v H' else H' = Hk)) ∧
      (isHeapO o = false → q = true → ReadP P B o tk Hk v (base + (nal + cl isAllocO l k))) ∧
      (∀ d, o.dst = some d → (∀ (k' : Nat) (o' : Oper), k < k' → l[k']? = some o' → o'.dst ≠ some d) → d < tf.length → tf[d]? = some v) ∧
      (∀ j, (∀ (k' : Nat) (o' : Oper), k' < k → l[k']? = some o' → o'.dst ≠ some j) → tk[j]? = t[j]?)
  | [], nal, t, H, xs, hs, tf, Hf, h => by
    obtain ⟨rfl, rfl, rfl, rfl⟩ := h
    exact ⟨rfl, rfl, rfl, fun _ _ => rfl, fun k o h => by simp at h⟩
  | o :: l, nal, t, H, xs, hs, tf, Hf, h => by
    obtain ⟨q, v, xs', rfl, hw, hu, h⟩ := h
    by_cases hh : isHeapO o = true
    · rw [if_pos hh] at h
      obtain ⟨H', hs', rfl, hd, h⟩ := h
      obtain ⟨g1, g2, g3, g4, g5⟩ := DX_at l nal _ H' xs' hs' tf Hf h
      rw [putT_len] at g3
      refine ⟨rfl, ?_, g3, fun j hj => ?_, fun k o' hk => ?_⟩
      · simp only [List.length_cons, cl, hh, if_true]; rw [Nat.add_comm, List.getElem?_cons_succ]; exact g2
      · rw [← g4 j fun o' ho' => hj o' (by simp [ho']), putT_ne (hj o (by simp))]
      · cases k with
        | zero =>
          simp at hk; subst hk
          refine ⟨q, v, t, H, rfl, rfl, fun j hj => ?_, hw, hu, fun _ => ⟨H', by simp [cl]; exact g1, hd⟩, fun hf => by rw [hh] at hf; simp at hf, fun d hd1 hd2 hlt => ?_, ?_⟩
          · rw [← g4 j fun o' ho' => ?_, putT_ne (hj 0 o (Nat.le_refl _) rfl)]
            obtain ⟨m, hm⟩ := List.mem_iff_getElem?.1 ho'
            exact hj (m + 1) o' (by omega) (by simpa using hm)
          · rw [← g4 d fun o' ho' => ?_]
            · rw [hd1]; simp only [putT]; rw [List.getElem?_set]; simp [g3, hlt]
            · obtain ⟨m, hm⟩ := List.mem_iff_getElem?.1 ho'
              exact hd2 (m + 1) o' (by omega) (by simpa using hm)
          · intros; rfl
        | succ k =>
          obtain ⟨q2, v2, tk, Hk, r1, r2, r3, r4, r5, r6, r7, r8, r9⟩ := g5 k o' (by simpa using hk)
          refine ⟨q2, v2, tk, Hk, by simpa using r1, ?_, fun j hj => r3 j fun k' o'' hk' ho'' => hj (k' + 1) o'' (by omega) (by simpa using ho''), r4, r5, fun hf => ?_, fun hf hq => ?_, fun d hd1 hd2 hlt => r8 d hd1 (fun k' o'' hk' ho'' => hd2 (k' + 1) o'' (by omega) (by simpa using ho'')) hlt, fun j hj => by rw [r9 j fun k' o'' hk' ho'' => hj (k' + 1) o'' (by omega) (by simpa using ho''), putT_ne (hj 0 o (by omega) rfl)]⟩
          · simp only [cl, hh, if_true]; rw [Nat.add_comm, List.getElem?_cons_succ]; exact r2
          · obtain ⟨G, s1, s2⟩ := r6 hf
            refine ⟨G, ?_, s2⟩
            simp only [cl, hh, if_true]; rw [show 1 + cl isHeapO l k + 1 = (cl isHeapO l k + 1) + 1 by omega, List.getElem?_cons_succ]; exact s1
          · have ha : isAllocO o = false := by
              unfold isHeapO at hh
              cases hq2 : isAllocO o
              · rfl
              · simp [hq2] at hh
            have := r7 hf hq
            simpa [cl, ha] using this
    · rw [if_neg hh] at h
      obtain ⟨hd, h⟩ := h
      have hh' : isHeapO o = false := by simpa using hh
      obtain ⟨g1, g2, g3, g4, g5⟩ := DX_at l _ _ H xs' hs tf Hf h
      rw [putT_len] at g3
      refine ⟨g1, ?_, g3, fun j hj => ?_, fun k o' hk => ?_⟩
      · simp only [List.length_cons, cl, hh', Bool.false_eq_true, if_false, Nat.zero_add]; exact g2
      · rw [← g4 j fun o' ho' => hj o' (by simp [ho']), putT_ne (hj o (by simp))]
      · cases k with
        | zero =>
          simp at hk; subst hk
          refine ⟨q, v, t, H, rfl, by rw [cl_zero]; exact g1, fun j hj => ?_, hw, hu, fun hf => by rw [hh'] at hf; simp at hf, fun _ hq => by simpa [cl] using hd hq, fun d hd1 hd2 hlt => ?_, ?_⟩
          · rw [← g4 j fun o' ho' => ?_, putT_ne (hj 0 o (Nat.le_refl _) rfl)]
            obtain ⟨m, hm⟩ := List.mem_iff_getElem?.1 ho'
            exact hj (m + 1) o' (by omega) (by simpa using hm)
          · rw [← g4 d fun o' ho' => ?_]
            · rw [hd1]; simp only [putT]; rw [List.getElem?_set]; simp [g3, hlt]
            · obtain ⟨m, hm⟩ := List.mem_iff_getElem?.1 ho'
              exact hd2 (m + 1) o' (by omega) (by simpa using hm)
          · intros; rfl
        | succ k =>
          obtain ⟨q2, v2, tk, Hk, r1, r2, r3, r4, r5, r6, r7, r8, r9⟩ := g5 k o' (by simpa using hk)
          refine ⟨q2, v2, tk, Hk, by simpa using r1, ?_, fun j hj => r3 j fun k' o'' hk' ho'' => hj (k' + 1) o'' (by omega) (by simpa using ho''), r4, r5, fun hf => ?_, fun hf hq => ?_, fun d hd1 hd2 hlt => r8 d hd1 (fun k' o'' hk' ho'' => hd2 (k' + 1) o'' (by omega) (by simpa using ho'')) hlt, fun j hj => by rw [r9 j fun k' o'' hk' ho'' => hj (k' + 1) o'' (by omega) (by simpa using ho''), putT_ne (hj 0 o (by omega) rfl)]⟩
          · simp only [cl, hh', Bool.false_eq_true, if_false, Nat.zero_add]; exact r2
          · obtain ⟨G, s1, s2⟩ := r6 hf
            refine ⟨G, ?_, s2⟩
            simp only [cl, hh', Bool.false_eq_true, if_false, Nat.zero_add]; exact s1
          · have := r7 hf hq
            simp only [cl]
            rw [← Nat.add_assoc nal]; exact this
def rcOk (ops : Array Oper) (rl : List (Nat × Nat)) : Bool := (List.range ops.size).all fun i => match ops[i]? with
  | some o => isHeapO o || isPure o || isQuietO o || (List.range (cntB (heapAt ops) ops.size + 1)).all fun k => !mayAt ops i k || k == cntB (heapAt ops) i || (rl.contains (i, k) && (List.range ops.size).all fun j => match ops[j]? with
    | some oj => decide (j < i) || (match oj.dst with | some d => !(o.looksAt ops).contains d | none => true)
    | none => true)
  | none => true
/-- What has to be read again. -/
def RC (P : Program) (B : Nat) (ops : Array Oper) (base : Nat) (xs : List (Bool × Value)) (hs : List Heap) (tf : List Value) : List (Nat × Nat) → Prop
  | [] => True
  | (i, k) :: r => (∃ (o : Oper) (q : Bool) (v : Value) (Hk : Heap), ops[i]? = some o ∧ xs[i]? = some (q, v) ∧ hs[k]? = some Hk ∧ (q = true → ReadP P B o tf Hk v (base + cl isAllocO ops.toList i))) ∧ RC P B ops base xs hs tf r
theorem RC_at {xs : List (Bool × Value)} {hs : List Heap} {tf : List Value} : ∀ {rl : List (Nat × Nat)} {i k : Nat}, RC P B ops base xs hs tf rl → (i, k) ∈ rl → ∃ (o : Oper) (q : Bool) (v : Value) (Hk : Heap), ops[i]? = some o ∧ xs[i]? = some (q, v) ∧ hs[k]? = some Hk ∧ (q = true → ReadP P B o tf Hk v (base + cl isAllocO ops.toList i))
  | [], _, _, _, h => by simp at h
  | (i', k') :: r, i, k, h, hm => by
    rcases List.mem_cons.1 hm with e | hm
    · obtain ⟨rfl, rfl⟩ := Prod.mk.inj e; exact h.1
    · exact RC_at h.2 hm
theorem ReadP.congr {o : Oper} {t t' : List Value} {v : Value} {id : Nat} (h : ∀ x ∈ o.op.operands, ev t' x = ev t x) (hr : ReadP P B o t H v id) : ReadP P B o t' H v id := by
  unfold ReadP at hr ⊢
  split at hr
  · exact hr
  · rename_i e x he
    obtain ⟨d, u, h1, h2, h3⟩ := hr
    refine ⟨d, u, h1, ?_, h3⟩
    have h9 := h x (by rw [he]; simp [Op.operands])
    simp only [evL, h9] at h2 ⊢; exact h2
  · exact hr.congr h
  · rw [opA_congr h]; exact hr
/-- A region that draws its order, walked through in the text's order. -/
theorem Ex_dr (hm : P.follows .mixedOrders = true) {id : Nat} {pre : List (Option Blk)} {xs : List (Bool × Value)} {hs : List Heap} {tf : List Value} {H1 Hf : Heap} (rl : List (Nat × Nat)) (hok : drawOk ops = true) (hrl : rcOk ops rl = true)
    (hp : pre.length = cl isAllocO ops.toList ops.toList.length) (hpf : pre.all (fun b => match b with | some b => b.cells.all flatV | none => true) = true) (hH : H ++ pre = H1)
    (hw : DX P B ops H.length 0 ops.toList t H1 xs hs tf Hf) (hrc : RC P B ops H.length xs hs tf rl) (k : Q .normal tf Hf) : Ex P B (.region id ops true) t H Q := by
  subst hH
  obtain ⟨g1, g2, g3, g4, g5⟩ := DX_at _ _ _ _ _ _ _ _ hw
  have cH : ∀ i, i ≤ ops.size → cl isHeapO ops.toList i = cntB (heapAt ops) i := fun i hi => cl_cntB isHeapO (heapAt ops) ops.toList i (by simpa using hi) fun j o hj => by
    rw [Array.getElem?_toList] at hj; simp [heapAt, hj]
  have cA : ∀ i, i ≤ ops.size → cl isAllocO ops.toList i = cntB (allocAt ops) i := fun i hi => cl_cntB isAllocO (allocAt ops) ops.toList i (by simpa using hi) fun j o hj => by
    rw [Array.getElem?_toList] at hj; simp [allocAt, hj]
  have hsz : ops.toList.length = ops.size := by simp
  rw [hsz, cH _ (Nat.le_refl _)] at g2
  rw [hsz, cA _ (Nat.le_refl _)] at hp
  let W : Nat → Bool := fun i => ((xs[i]?).getD (false, undef)).1
  let V : Nat → Value := fun i => ((xs[i]?).getD (false, undef)).2
  let Hs : Nat → Heap := fun k => (hs[k]?).getD []
  have at' : ∀ (i : Nat), ∃ tk : List Value, ∀ (o : Oper), ops[i]? = some o → ∃ (Hk : Heap), hs[cntB (heapAt ops) i]? = some Hk ∧ xs[i]? = some (W i, V i) ∧ wantedA ops o tk = some (W i) ∧ (W i = false → V i = undef) ∧
      (isHeapO o = true → ∃ H', hs[cntB (heapAt ops) i + 1]? = some H' ∧ (if W i = true then DoesP P B o tk Hk (V i) H' else H' = Hk)) ∧
      (isHeapO o = false → W i = true → ReadP P B o tk Hk (V i) (H.length + cntB (allocAt ops) i)) ∧ (∀ d v, o.dst = some d → tf[d]? = some v → v = V i) ∧
      (∀ j, (∀ (k' : Nat) (o' : Oper), i ≤ k' → ops[k']? = some o' → o'.dst ≠ some j) → tk[j]? = tf[j]?) ∧
      (∀ j, (∀ (k' : Nat) (o' : Oper), k' < i → ops[k']? = some o' → o'.dst ≠ some j) → tk[j]? = t[j]?) := by
    intro i
    cases ho0 : ops[i]? with
    | none => exact ⟨[], fun o ho => by simp at ho⟩
    | some o0 =>
    have hn : i < ops.size := (Array.getElem?_eq_some_iff.1 ho0).1
    obtain ⟨q, v, tk, Hk, r1, r2, r3, r4, r5, r6, r7, r8, r9⟩ := g5 i o0 (by rw [Array.getElem?_toList]; exact ho0)
    refine ⟨tk, fun o ho => ?_⟩
    obtain rfl := Option.some.inj ho
    have hW : W i = q := by simp [W, r1]
    have hV : V i = v := by simp [V, r1]
    rw [cH i (by omega)] at r2 r6
    rw [cA i (by omega), Nat.zero_add] at r7
    refine ⟨Hk, r2, by rw [hW, hV]; exact r1, by rw [hW]; exact r4, by rw [hW, hV]; exact r5, by rw [hW, hV]; exact r6, by rw [hW, hV]; exact r7, fun d u hd hu => ?_, fun j hj => r3 j fun k' o' hk' ho' => hj k' o' hk' (by rw [← Array.getElem?_toList]; exact ho'), fun j hj => r9 j fun k' o' hk' ho' => hj k' o' hk' (by rw [← Array.getElem?_toList]; exact ho')⟩
    have hlt : d < tf.length := (List.getElem?_eq_some_iff.1 hu).1
    have := r8 d hd (fun k' o' hk' ho' hd' => by
      rw [Array.getElem?_toList] at ho'
      have hp := (drawOk_at hok ho0).2 k' o' ho'
      simp only [pairOk, hd', Bool.and_eq_true, Bool.or_eq_true, beq_iff_eq, bne_iff_ne] at hp
      rcases hp.1.2 with e | e
      · omega
      · exact e hd) hlt
    rw [hV]; rw [this] at hu; exact (Option.some.inj hu).symm
  obtain ⟨Tf, at'⟩ := Classical.axiomOfChoice at'
  have F : Facts P B ops H.length t tf Tf W V Hs := by
    refine ⟨hok, fun i o ho => ?_, fun i o ho hq => ?_, fun i o ho hh => ?_, fun i o k ho hh hq hk hkm => ?_, fun i o x ho hx hj => ?_, fun i o x ho hx hj => ?_, g3, fun i o d v ho hd hv => ?_⟩
    · obtain ⟨Hk, _, _, r, _⟩ := at' i o ho; exact r
    · obtain ⟨Hk, _, _, _, r, _⟩ := at' i o ho; exact r hq
    · obtain ⟨Hk, r1, _, _, _, r6, _⟩ := at' i o ho
      obtain ⟨H', s1, s2⟩ := r6 hh
      have e1 : Hs (cntB (heapAt ops) i) = Hk := by simp [Hs, r1]
      have e2 : Hs (cntB (heapAt ops) i + 1) = H' := by simp [Hs, s1]
      rw [e1, e2]
      exact s2
    · obtain ⟨Hk, r1, r2, _, _, _, hr, _, hE, _⟩ := at' i o ho
      have hn : i < ops.size := (Array.getElem?_eq_some_iff.1 ho).1
      have hr := hr hh hq
      have e1 : Hs (cntB (heapAt ops) i) = Hk := by simp [Hs, r1]
      by_cases hpu : isPure o = true
      · unfold ReadP at hr ⊢
        split
        · rename_i e he; simp [isPure, he] at hpu
        · rename_i e x0 he; simp [isPure, he] at hpu
        · rename_i he; simp [isPure, he] at hpu
        · rename_i hne hne2 hne3
          split at hr
          · rename_i e he; exact absurd he (hne e)
          · rename_i e x0 he; exact absurd he (hne2 e x0)
          · rename_i e1 e2 e3 he; exact absurd he (hne3 e1 e2 e3)
          · exact (opA_pure hpu hr).2 _
      · by_cases hqu : isQuietO o = true
        · unfold ReadP at hr ⊢
          split
          · rename_i e he; simp [isQuietO, he] at hqu
          · rename_i e x0 he; simp [isQuietO, he] at hqu
          · rename_i e1 e2 e3 he
            split at hr
            · rename_i e he2; rw [he] at he2; simp at he2
            · rename_i e x0 he2; rw [he] at he2; simp at he2
            · exact hr
            · rename_i hne hne2 hne3; exact absurd he (hne3 e1 e2 e3)
          · rename_i hne hne2 hne3
            unfold isQuietO at hqu
            split at hqu
            · rename_i e1 e2 e3 he; exact absurd he (hne3 _ e2 e3)
            · simp at hqu
        by_cases hkp : k = cntB (heapAt ops) i
        · subst hkp; rw [e1]; exact hr
        · have hall := List.all_eq_true.1 hrl i (by simpa using hn)
          rw [ho] at hall
          have hpu' : isPure o = false := by simpa using hpu
          have hqu' : isQuietO o = false := by simpa using hqu
          simp only [hh, hpu', hqu', Bool.false_or] at hall
          have := List.all_eq_true.1 hall k (by simp; omega)
          have hkp' : (k == cntB (heapAt ops) i) = false := by simpa using hkp
          simp only [hk, hkp', Bool.not_true, Bool.false_or, Bool.and_eq_true] at this
          obtain ⟨hin, hlate⟩ := this
          obtain ⟨o2, q2, v2, Hk2, s1, s2, s3, s4⟩ := RC_at hrc (by simpa using hin)
          rw [ho] at s1; obtain rfl := Option.some.inj s1
          rw [r2] at s2
          obtain ⟨e3, e4⟩ := Prod.mk.inj (Option.some.inj s2)
          have e5 : Hs k = Hk2 := by simp [Hs, s3]
          rw [e5, e4, ← cA i (by omega)]
          refine (s4 (by rw [← e3]; exact hq)).congr fun x hx => ?_
          cases x with
          | tmp y =>
            simp only [ev]
            refine hE y fun k' o' hk' ho' hd => ?_
            have hk'n : k' < ops.size := (Array.getElem?_eq_some_iff.1 ho').1
            have h9 := List.all_eq_true.1 hlate k' (by simpa using hk'n)
            rw [ho'] at h9
            simp only [hd, Bool.or_eq_true, decide_eq_true_eq, Bool.not_eq_true'] at h9
            rcases h9 with h9 | h9
            · omega
            · have : (o.looksAt ops).contains y = true := by
                simp only [List.contains_iff_mem]
                unfold Oper.looksAt
                exact List.mem_append_left _ (List.mem_filterMap.2 ⟨.tmp y, by simpa using hx, rfl⟩)
              rw [h9] at this; simp at this
          | _ => rfl
    · obtain ⟨Hk, _, _, _, _, _, _, _, _, hL⟩ := at' i o ho
      obtain ⟨j, oj, hj1, hj2, hj3⟩ := hj
      refine hL x fun k' o' hk' ho' hd => ?_
      have hp := (drawOk_at hok hj1).2 k' o' ho'
      simp only [pairOk, hd, Bool.and_eq_true, Bool.or_eq_true, beq_iff_eq, bne_iff_ne] at hp
      rcases hp.1.2 with e | e
      · omega
      · exact e hj2
    · obtain ⟨Hk, _, _, _, _, _, _, _, hE, _⟩ := at' i o ho
      exact hE x fun k' o' hk' ho' hd => hj ⟨k', o', ho', hd, hk'⟩
    · obtain ⟨Hk, _, _, _, _, _, _, r, _⟩ := at' i o ho; exact r d v hd hv
  refine Ex_drawn hm (base := H.length) (pre := pre) rfl hp (fun b hb v hv => ?_) (by simp [Hs, g1]) g3 (fun j hj => g4 j fun o ho hd => ?_) F ?_
  · have := List.all_eq_true.1 hpf (some b) hb
    exact List.all_eq_true.1 this v hv
  · obtain ⟨i, hi⟩ := List.mem_iff_getElem?.1 ho
    have : unl ops (fun _ => false) j = true := unl_iff.2 ⟨i, o, by rw [← Array.getElem?_toList]; exact hi, rfl, hd⟩
    rw [hj] at this; simp at this
  · have : Hs (cntB (heapAt ops) ops.size) = Hf := by simp [Hs, g2]
    rw [this]; exact k
end
end Go.Proofs.Ytnmpgofhdjcpaaa.Eng
