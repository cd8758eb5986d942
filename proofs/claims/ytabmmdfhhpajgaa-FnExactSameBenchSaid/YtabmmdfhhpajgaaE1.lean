/- A text of this claim (E1): lemmas for the proof, no conditions of their own. -/
import Derived.Orders
import Derived.Below
import Derived.LoopN
set_option linter.unusedVariables false
namespace Go.Proofs.Ytabmmdfhhpajgaa.Eng
open Go Go.RowKit

/-- Where an abstract row lies: block, first cell, how many cells there are from there on, the cells of an element. -/
structure Loc where
  blk : Nat
  off : Nat
  avail : Nat
  sz : Nat

abbrev Ren := Nat → Option Loc

/-- What a variable holds that is not read any more. -/
def dead : Value := .chan none

/-- An abstract value and a value of the machine: blocks renamed, capacities at least as told. -/
inductive VRel (ι : Ren) : Value → Value → Prop
  | bool (b : Bool) : VRel ι (.bool b) (.bool b)
  | int (k : IntKind) (n : Int) : VRel ι (.int k n) (.int k n)
  | str (s : ByteArray) : VRel ι (.string s) (.string s)
  | nilPtr : VRel ι (.pointer none) (.pointer none)
  | nilFunc : VRel ι .nilFunc .nilFunc
  | nilIface : VRel ι .nilIface .nilIface
  | ptr (b o : Nat) (L : Loc) (h : ι b = some L) : VRel ι (.pointer (some ⟨b, o, none⟩)) (.pointer (some ⟨L.blk, L.off + o, none⟩))
  | nilSl : VRel ι (.slice none 0 0) (.slice none 0 0)
  | sl (b o n c : Nat) (L : Loc) (a' : Addr) (c' : Nat) (h : ι b = some L) (hn : n ≤ c') (hz : c = 0 → c' = 0) (hl : c ≤ c' + 1) (hx : o + c' * L.sz ≤ L.avail)
      (ha : a' = ⟨L.blk, L.off + o, none⟩ ∨ c' = 0) : VRel ι (.slice (some ⟨b, o, none⟩) n c) (.slice (some a') n c')
  | agg (xs ys : List Value) (hl : xs.length = ys.length) (h : ∀ (i : Nat) (v v' : Value), xs[i]? = some v → ys[i]? = some v' → VRel ι v v') : VRel ι (.agg ⟨xs⟩) (.agg ⟨ys⟩)
  | tuple (xs ys : List Value) (hl : xs.length = ys.length) (h : ∀ (i : Nat) (v v' : Value), xs[i]? = some v → ys[i]? = some v' → VRel ι v v') : VRel ι (.tuple ⟨xs⟩) (.tuple ⟨ys⟩)
  | func (f : FuncId) (xs ys : List Value) (hl : xs.length = ys.length) (h : ∀ (i : Nat) (v v' : Value), xs[i]? = some v → ys[i]? = some v' → VRel ι v v') : VRel ι (.func (.func f) #[] ⟨xs⟩) (.func (.func f) #[] ⟨ys⟩)

/-- Lists of values, one by one. -/
def LRel (ι : Ren) (xs ys : List Value) : Prop := xs.length = ys.length ∧ ∀ (i : Nat) (v v' : Value), xs[i]? = some v → ys[i]? = some v' → VRel ι v v'

theorem VRel.mono {ι ι' : Ren} (hm : ∀ id L, ι id = some L → ι' id = some L) {v v' : Value} (h : VRel ι v v') : VRel ι' v v' := by
  induction h with
  | bool b => exact .bool b
  | int k n => exact .int k n
  | str s => exact .str s
  | nilPtr => exact .nilPtr
  | nilFunc => exact .nilFunc
  | nilIface => exact .nilIface
  | ptr b o L h => exact .ptr b o L (hm _ _ h)
  | nilSl => exact .nilSl
  | sl b o n c L a' c' h hn hz hl hx ha => exact .sl b o n c L a' c' (hm _ _ h) hn hz hl hx ha
  | agg xs ys hl _ ih => exact .agg xs ys hl ih
  | tuple xs ys hl _ ih => exact .tuple xs ys hl ih
  | func f xs ys hl _ ih => exact .func f xs ys hl ih

theorem LRel.mono {ι ι' : Ren} (hm : ∀ id L, ι id = some L → ι' id = some L) {xs ys : List Value} (h : LRel ι xs ys) : LRel ι' xs ys :=
  ⟨h.1, fun i v v' a b => (h.2 i v v' a b).mono hm⟩

theorem LRel.nil (ι : Ren) : LRel ι [] [] := ⟨rfl, fun i v v' h => by simp at h⟩
theorem LRel.cons {ι : Ren} {v v' : Value} {xs ys : List Value} (h : VRel ι v v') (hs : LRel ι xs ys) : LRel ι (v :: xs) (v' :: ys) :=
  ⟨by simp [hs.1], fun i a a' h1 h2 => by
    cases i with
    | zero => simp at h1 h2; subst h1; subst h2; exact h
    | succ i => simp at h1 h2; exact hs.2 i a a' h1 h2⟩
theorem LRel.inv_cons {ι : Ren} {v : Value} {xs ys : List Value} (h : LRel ι (v :: xs) ys) : ∃ v' ys', ys = v' :: ys' ∧ VRel ι v v' ∧ LRel ι xs ys' := by
  cases ys with
  | nil => have := h.1; simp at this
  | cons v' ys' => exact ⟨v', ys', rfl, h.2 0 v v' (by simp) (by simp), by have := h.1; simp at this; exact this, fun i a a' h1 h2 => h.2 (i + 1) a a' (by simpa using h1) (by simpa using h2)⟩
theorem LRel.get {ι : Ren} {xs ys : List Value} (h : LRel ι xs ys) {i : Nat} {v : Value} (hv : xs[i]? = some v) : ∃ v', ys[i]? = some v' ∧ VRel ι v v' := by
  have hi : i < xs.length := (List.getElem?_eq_some_iff.1 hv).1
  have hi' : i < ys.length := h.1 ▸ hi
  exact ⟨ys[i], by simp [hi'], h.2 i v _ hv (by simp [hi'])⟩
theorem LRel.append {ι : Ren} {xs ys us vs : List Value} (h : LRel ι xs ys) (k : LRel ι us vs) : LRel ι (xs ++ us) (ys ++ vs) := by
  refine ⟨by simp [h.1, k.1], fun i v v' h1 h2 => ?_⟩
  by_cases hi : i < xs.length
  · rw [List.getElem?_append_left hi] at h1; rw [List.getElem?_append_left (h.1 ▸ hi)] at h2; exact h.2 i v v' h1 h2
  · have hi1 : xs.length ≤ i := by omega
    have hi2 : ys.length ≤ i := by have := h.1; omega
    rw [List.getElem?_append_right hi1] at h1; rw [List.getElem?_append_right hi2, ← h.1] at h2; exact k.2 _ v v' h1 h2
theorem LRel.take {ι : Ren} {xs ys : List Value} (h : LRel ι xs ys) (n : Nat) : LRel ι (xs.take n) (ys.take n) := by
  refine ⟨by simp [h.1], fun i v v' h1 h2 => ?_⟩
  rw [List.getElem?_take] at h1 h2
  split at h1 <;> simp_all
  exact h.2 i v v' h1 h2
theorem LRel.drop {ι : Ren} {xs ys : List Value} (h : LRel ι xs ys) (n : Nat) : LRel ι (xs.drop n) (ys.drop n) := by
  refine ⟨by simp [h.1], fun i v v' h1 h2 => ?_⟩
  rw [List.getElem?_drop] at h1 h2
  exact h.2 _ v v' h1 h2
theorem LRel.set {ι : Ren} {xs ys : List Value} (h : LRel ι xs ys) {u u' : Value} (hu : VRel ι u u') (n : Nat) : LRel ι (xs.set n u) (ys.set n u') := by
  refine ⟨by simp [h.1], fun i v v' h1 h2 => ?_⟩
  rw [List.getElem?_set] at h1 h2
  split at h1
  · rename_i e; subst e
    simp only [if_true] at h2
    split at h1 <;> split at h2 <;> simp_all
  · rename_i e; simp only [e, if_false] at h2; exact h.2 i v v' h1 h2
theorem LRel.replicate {ι : Ren} {v v' : Value} (h : VRel ι v v') (n : Nat) : LRel ι (List.replicate n v) (List.replicate n v') := by
  refine ⟨by simp, fun i u u' h1 h2 => ?_⟩
  rw [List.getElem?_replicate] at h1 h2
  split at h1 <;> simp_all

/-- A value that names no block. -/
def flatV : Value → Bool
  | .bool _ | .int _ _ | .string _ | .nilFunc | .nilIface | .pointer none | .slice none 0 0 => true
  | _ => false
theorem VRel.flat {ι : Ren} {v : Value} (h : flatV v = true) : VRel ι v v := by
  unfold flatV at h
  split at h <;> first | exact .bool _ | exact .int _ _ | exact .str _ | exact .nilFunc | exact .nilIface | exact .nilPtr | exact .nilSl | exact absurd h (by simp)
theorem VRel.flat_eq {ι : Ren} {v v' : Value} (h : flatV v = true) (r : VRel ι v v') : v' = v := by
  cases r <;> simp_all [flatV]
theorem VRel.flat_iff {ι : Ren} {v v' : Value} (r : VRel ι v v') : flatV v' = flatV v := by
  cases r <;> simp_all [flatV]
theorem LRel.flat {ι : Ren} {xs : List Value} (h : ∀ v ∈ xs, flatV v = true) : LRel ι xs xs :=
  ⟨rfl, fun i v v' h1 h2 => by rw [h1] at h2; obtain rfl := Option.some.inj h2; exact .flat (h _ (List.mem_of_getElem? h1))⟩

/-- What a variable holds: a value, or nothing that is read. -/
def TRel (ι : Ren) (v v' : Value) : Prop := v = dead ∨ VRel ι v v'
def isDead : Value → Bool | .chan _ => true | _ => false
theorem VRel.alive {ι : Ren} {v v' : Value} (h : VRel ι v v') : isDead v = false := by cases h <;> rfl
theorem TRel.live {ι : Ren} {v v' : Value} (h : TRel ι v v') (hd : isDead v = false) : VRel ι v v' := by
  rcases h with rfl | h
  · simp [dead, isDead] at hd
  · exact h
theorem TRel.mono {ι ι' : Ren} (hm : ∀ id L, ι id = some L → ι' id = some L) {v v' : Value} (h : TRel ι v v') : TRel ι' v v' := h.imp id (VRel.mono hm)

/-- An abstract row of cells. -/
structure Blk where
  cells : List Value
  sz : Nat
  wr : Bool
  fl : Bool
abbrev Heap := List (Option Blk)

/-- The abstract heap lies in the world. -/
structure HRel (w0 : World) (ι : Ren) (H : Heap) (w : World) : Prop where
  below : Below w0.heap.size w0 w
  dom : ∀ id L, ι id = some L → id < H.length
  blk : ∀ (id : Nat) (L : Loc) (b : Blk), ι id = some L → H[id]? = some (some b) → ∃ c e fr, w.heap[L.blk]? = some (.cells c e fr) ∧ L.off + L.avail ≤ c.size ∧ b.cells.length ≤ L.avail ∧ L.sz = b.sz ∧
    (∀ (j : Nat) (v : Value), b.cells[j]? = some v → ∃ v', c[L.off + j]? = some v' ∧ VRel ι v v') ∧ (b.wr = true → w0.heap.size ≤ L.blk ∧ fr = (0, 0))
  sep : ∀ (i j : Nat) (L M : Loc) (b b2 : Blk), ι i = some L → ι j = some M → i ≠ j → H[i]? = some (some b) → b.wr = true → H[j]? = some (some b2) → L.blk ≠ M.blk
  flat : ∀ (id : Nat) (b : Blk), H[id]? = some (some b) → b.fl = true → ∀ v ∈ b.cells, flatV v = true
  tot : ∀ (id : Nat) (b : Blk), H[id]? = some (some b) → (∃ L, ι id = some L) ∨ ∀ v ∈ b.cells, flatV v = true

/-- What v means hangs on the blocks below B alone. -/
def Lt (B : Nat) (v : Value) : Prop := ∀ (ι ι' : Ren) (v' : Value), (∀ id, id < B → ι' id = ι id) → VRel ι v v' → VRel ι' v v'
theorem Lt.flat {B : Nat} {v : Value} (h : flatV v = true) : Lt B v := fun ι ι' v' _ r => by have := r.flat_eq h; subst this; exact .flat h
theorem Lt.of {ι : Ren} {B : Nat} {v v' : Value} (h : VRel ι v v') (hd : ∀ id L, ι id = some L → id < B) : Lt B v := by
  intro ι1 ι2 u hE r
  induction h generalizing u with
  | bool b => cases r; exact .bool b
  | int k n => cases r; exact .int k n
  | str s => cases r; exact .str s
  | nilPtr => cases r; exact .nilPtr
  | nilFunc => cases r; exact .nilFunc
  | nilIface => cases r; exact .nilIface
  | ptr b o L h => cases r with | ptr _ _ L1 h1 => exact .ptr b o L1 (by rw [hE _ (hd _ _ h)]; exact h1)
  | nilSl => cases r; exact .nilSl
  | sl b o n c L a' c' h hn hz hl hx ha => cases r with | sl _ _ _ _ L1 a1 c1 h1 hn1 hz1 hl1 hx1 ha1 => exact .sl b o n c L1 a1 c1 (by rw [hE _ (hd _ _ h)]; exact h1) hn1 hz1 hl1 hx1 ha1
  | agg xs ys hl h ih => cases r with | agg _ ys1 hl1 h1 =>
      refine .agg xs ys1 hl1 fun i a a1 ha ha1 => ?_
      have hi : i < ys.length := by rw [← hl]; exact (List.getElem?_eq_some_iff.1 ha).1
      exact ih i a ys[i] ha (by simp [hi]) a1 (h1 i a a1 ha ha1)
  | tuple xs ys hl h ih => cases r with | tuple _ ys1 hl1 h1 =>
      refine .tuple xs ys1 hl1 fun i a a1 ha ha1 => ?_
      have hi : i < ys.length := by rw [← hl]; exact (List.getElem?_eq_some_iff.1 ha).1
      exact ih i a ys[i] ha (by simp [hi]) a1 (h1 i a a1 ha ha1)
  | func f xs ys hl h ih => cases r with | func _ _ ys1 hl1 h1 =>
      refine .func f xs ys1 hl1 fun i a a1 ha ha1 => ?_
      have hi : i < ys.length := by rw [← hl]; exact (List.getElem?_eq_some_iff.1 ha).1
      exact ih i a ys[i] ha (by simp [hi]) a1 (h1 i a a1 ha ha1)
theorem Lt.mono {B B' : Nat} {v : Value} (h : Lt B v) (hB : B ≤ B') : Lt B' v := fun ι ι' v' hE r => h ι ι' v' (fun id hi => hE id (by omega)) r

/-- Blocks below B name blocks below B alone. -/
def OC (B : Nat) (H : Heap) : Prop := ∀ (id : Nat) (b : Blk) (v : Value), id < B → H[id]? = some (some b) → v ∈ b.cells → Lt B v
/-- What a step keeps. -/
def OCs (B : Nat) (H H' : Heap) : Prop := ∀ B', B' ≤ B → OC B' H → OC B' H'
theorem OCs.refl (B : Nat) (H : Heap) : OCs B H H := fun _ _ h => h
theorem OCs.trans {B : Nat} {H1 H2 H3 : Heap} (h : OCs B H1 H2) (k : OCs B H2 H3) : OCs B H1 H3 := fun B' hB o => k B' hB (h B' hB o)
theorem OCs.mono {B B1 : Nat} {H H' : Heap} (h : OCs B H H') (hB : B1 ≤ B) : OCs B1 H H' := fun B' hB' o => h B' (by omega) o

/-- The renaming grows. -/
def Ext (n : Nat) (ι ι' : Ren) : Prop := ∀ id, id < n → ι' id = ι id
theorem Ext.refl (n : Nat) (ι : Ren) : Ext n ι ι := fun _ _ => rfl
theorem Ext.trans {n m : Nat} {a b c : Ren} (h : Ext n a b) (k : Ext m b c) (hnm : n ≤ m) : Ext n a c := fun id hi => (k id (by omega)).trans (h id hi)
theorem Ext.mono {n m : Nat} {a b : Ren} (h : Ext n a b) (hm : m ≤ n) : Ext m a b := fun id hi => h id (by omega)
theorem HRel.ext {w0 w : World} {ι ι' : Ren} {H : Heap} (h : HRel w0 ι H w) (hE : Ext H.length ι ι') : ∀ id L, ι id = some L → ι' id = some L :=
  fun id L hi => by rw [hE id (h.dom id L hi)]; exact hi

end Go.Proofs.Ytabmmdfhhpajgaa.Eng
