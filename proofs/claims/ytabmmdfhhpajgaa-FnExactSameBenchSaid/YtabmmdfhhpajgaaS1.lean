/- A text of this claim (S1): lemmas for the proof, no conditions of their own. -/
import Derived.Test.YtabmmdfhhpajgaaE21
set_option linter.unusedVariables false
set_option linter.unusedSimpArgs false
namespace Go.Proofs.Ytabmmdfhhpajgaa.Eng
open Go Go.RowKit

/-- The shape of an element. -/
inductive ET where
  | int (k : IntKind) | bool | str | prod (a b : ET)
  deriving DecidableEq
@[reducible] def ET.T : ET → Type
  | .int _ => Int
  | .bool => Bool
  | .str => List UInt8
  | .prod a b => a.T × b.T
/-! ### values with names for rows -/
inductive SV where
  | bool (b : Bool) | int (k : IntKind) (n : Int) | str (s : List UInt8)
  | ptr (b i o : Nat) | nilp | sl (b s n x : Nat) | nils
  | agg (xs : List SV) | tup (xs : List SV) | fn (f : Nat) (xs : List SV) | nilf | nili | dead
  | opt (c : Bool) (b n x : Nat) | arrV (e : ET) (l : List e.T)
def ET.w : ET → Nat
  | .prod a b => a.w + b.w
  | _ => 1
def ET.enc : (e : ET) → e.T → List SV
  | .int k, n => [.int k n]
  | .bool, b => [.bool b]
  | .str, s => [.str s]
  | .prod a b, x => a.enc x.1 ++ b.enc x.2
def ET.dec : (e : ET) → List SV → Option (e.T × List SV)
  | .int k, .int k' n :: r => if k' = k then some (n, r) else none
  | .bool, .bool b :: r => some (b, r)
  | .str, .str s :: r => some (s, r)
  | .prod a b, cs => match a.dec cs with
    | some (x, r) => match b.dec r with
      | some (y, r) => some ((x, y), r)
      | none => none
    | none => none
  | _, _ => none
def ET.zero : (e : ET) → e.T
  | .int _ => (0 : Int)
  | .bool => false
  | .str => []
  | .prod a b => (a.zero, b.zero)
/-- A row: told no more, cells one by one, or elements of one shape. -/
inductive SB where
  | gone
  | box (cs : List SV) (wr fl : Bool)
  | arr (e : ET) (l : List e.T) (sz : Nat) (wr : Bool)
  | arrO (e : ET) (l : List e.T) (sz : Nat)

theorem ET.enc_len : ∀ (e : ET) (x : e.T), (e.enc x).length = e.w
  | .int k, _ => rfl
  | .bool, _ => rfl
  | .str, _ => rfl
  | .prod a b, x => by simp [ET.enc, ET.w, enc_len a, enc_len b]
theorem ET.dec_ok : ∀ (e : ET) (cs : List SV) (x : e.T) (r : List SV), e.dec cs = some (x, r) → cs = e.enc x ++ r
  | .int k, cs, x, r, h => by
    cases cs with
    | nil => simp [ET.dec] at h
    | cons v cs =>
      cases v <;> simp [ET.dec] at h
      obtain ⟨e0, e1, e2⟩ := h; subst e0; subst e1; subst e2; rfl
  | .bool, cs, x, r, h => by
    cases cs with
    | nil => simp [ET.dec] at h
    | cons v cs => cases v <;> simp [ET.dec] at h; obtain ⟨e1, e2⟩ := h; subst e1; subst e2; rfl
  | .str, cs, x, r, h => by
    cases cs with
    | nil => simp [ET.dec] at h
    | cons v cs => cases v <;> simp [ET.dec] at h; obtain ⟨e1, e2⟩ := h; subst e1; subst e2; rfl
  | .prod a b, cs, x, r, h => by
    simp only [ET.dec] at h
    split at h
    · rename_i y r1 h1
      split at h
      · rename_i z r2 h2
        obtain ⟨e1, e2⟩ := Prod.mk.inj (Option.some.inj h); subst e1; subst e2
        rw [dec_ok a _ _ _ h1, dec_ok b _ _ _ h2]; simp [ET.enc]
      · simp at h
    · simp at h

/-- An element's cells. -/
def toV : SV → Value
  | .bool b => .bool b | .int k n => .int k n | .str s => .string ⟨⟨s⟩⟩ | .nilp => .pointer none | .nils => .slice none 0 0 | .nilf => .nilFunc | .nili => .nilIface | _ => dead
/-- Where a name lies: the row of the abstract heap, and how many cells an element has. -/
abbrev Nm := Nat → Option (Nat × Nat)
inductive DR (ρ : Nm) : SV → Value → Prop
  | bool (b : Bool) : DR ρ (.bool b) (.bool b)
  | int (k : IntKind) (n : Int) : DR ρ (.int k n) (.int k n)
  | str (s : List UInt8) : DR ρ (.str s) (.string ⟨⟨s⟩⟩)
  | ptr (b i o id w : Nat) (h : ρ b = some (id, w)) : DR ρ (.ptr b i o) (.pointer (some ⟨id, i * w + o, none⟩))
  | nilp : DR ρ .nilp (.pointer none)
  | sl (b s n x id w : Nat) (h : ρ b = some (id, w)) : DR ρ (.sl b s n x) (.slice (some ⟨id, s * w, none⟩) n (n + x + 1))
  | nils : DR ρ .nils (.slice none 0 0)
  | agg (xs : List SV) (ys : List Value) (hl : xs.length = ys.length) (h : ∀ (i : Nat) (v : SV) (v' : Value), xs[i]? = some v → ys[i]? = some v' → DR ρ v v') : DR ρ (.agg xs) (.agg ⟨ys⟩)
  | tup (xs : List SV) (ys : List Value) (hl : xs.length = ys.length) (h : ∀ (i : Nat) (v : SV) (v' : Value), xs[i]? = some v → ys[i]? = some v' → DR ρ v v') : DR ρ (.tup xs) (.tuple ⟨ys⟩)
  | fn (f : Nat) (xs : List SV) (ys : List Value) (hl : xs.length = ys.length) (h : ∀ (i : Nat) (v : SV) (v' : Value), xs[i]? = some v → ys[i]? = some v' → DR ρ v v') : DR ρ (.fn f xs) (.func (.func f) #[] ⟨ys⟩)
  | optN (b n x id w : Nat) (h : ρ b = some (id, w)) (hn : n = 0) (hx : x = 0) : DR ρ (.opt true b n x) (.slice none 0 0)
  | optS (b n x id w : Nat) (h : ρ b = some (id, w)) : DR ρ (.opt false b n x) (.slice (some ⟨id, 0, none⟩) n (n + x + 1))
  | arrV (e : ET) (l : List e.T) : DR ρ (.arrV e l) (.agg ⟨(l.flatMap e.enc).map toV⟩)
  | nilf : DR ρ .nilf .nilFunc
  | nili : DR ρ .nili .nilIface

def LDR (ρ : Nm) (xs : List SV) (ys : List Value) : Prop := xs.length = ys.length ∧ ∀ (i : Nat) (v : SV) (v' : Value), xs[i]? = some v → ys[i]? = some v' → DR ρ v v'
def NLe (ρ ρ' : Nm) : Prop := ∀ b p, ρ b = some p → ρ' b = some p
theorem NLe.refl (ρ : Nm) : NLe ρ ρ := fun _ _ h => h
theorem NLe.trans {a b c : Nm} (h : NLe a b) (k : NLe b c) : NLe a c := fun n p hp => k n p (h n p hp)

theorem DR.ren {ρ ρ' : Nm} (hm : NLe ρ ρ') {v : SV} {v' : Value} (h : DR ρ v v') : DR ρ' v v' := by
  induction h with
  | bool b => exact .bool b
  | int k n => exact .int k n
  | str s => exact .str s
  | ptr b i o id w h => exact .ptr b i o id w (hm _ _ h)
  | nilp => exact .nilp
  | sl b s n x id w h => exact .sl b s n x id w (hm _ _ h)
  | nils => exact .nils
  | agg xs ys hl _ ih => exact .agg xs ys hl ih
  | tup xs ys hl _ ih => exact .tup xs ys hl ih
  | fn f xs ys hl _ ih => exact .fn f xs ys hl ih
  | optN b n x id w h hn hx => exact .optN b n x id w (hm _ _ h) hn hx
  | optS b n x id w h => exact .optS b n x id w (hm _ _ h)
  | arrV e l => exact .arrV e l
  | nilf => exact .nilf
  | nili => exact .nili
section
variable {ρ ρ' : Nm}
theorem LDR.mono (hm : NLe ρ ρ') {xs : List SV} {ys : List Value} (h : LDR ρ xs ys) : LDR ρ' xs ys := ⟨h.1, fun i v v' a b => (h.2 i v v' a b).ren hm⟩
theorem LDR.nil (ρ : Nm) : LDR ρ [] [] := ⟨rfl, fun i v v' h => by simp at h⟩
theorem LDR.cons {v : SV} {v' : Value} {xs : List SV} {ys : List Value} (h : DR ρ v v') (hs : LDR ρ xs ys) : LDR ρ (v :: xs) (v' :: ys) :=
  ⟨by simp [hs.1], fun i a a' h1 h2 => by
    cases i with
    | zero => simp at h1 h2; subst h1; subst h2; exact h
    | succ i => simp at h1 h2; exact hs.2 i a a' h1 h2⟩
theorem LDR.inv_cons {v : SV} {xs : List SV} {ys : List Value} (h : LDR ρ (v :: xs) ys) : ∃ v' ys', ys = v' :: ys' ∧ DR ρ v v' ∧ LDR ρ xs ys' := by
  cases ys with
  | nil => have := h.1; simp at this
  | cons v' ys' => exact ⟨v', ys', rfl, h.2 0 v v' (by simp) (by simp), by have := h.1; simp at this; exact this, fun i a a' h1 h2 => h.2 (i + 1) a a' (by simpa using h1) (by simpa using h2)⟩
theorem LDR.inv_nil {ys : List Value} (h : LDR ρ [] ys) : ys = [] := List.eq_nil_of_length_eq_zero (by have := h.1; simpa using this.symm)
theorem LDR.get {xs : List SV} {ys : List Value} (h : LDR ρ xs ys) {i : Nat} {v : SV} (hv : xs[i]? = some v) : ∃ v', ys[i]? = some v' ∧ DR ρ v v' := by
  have hi : i < xs.length := (List.getElem?_eq_some_iff.1 hv).1
  have hi' : i < ys.length := h.1 ▸ hi
  exact ⟨ys[i], by simp [hi'], h.2 i v _ hv (by simp [hi'])⟩
theorem LDR.append {xs us : List SV} {ys vs : List Value} (h : LDR ρ xs ys) (k : LDR ρ us vs) : LDR ρ (xs ++ us) (ys ++ vs) := by
  refine ⟨by simp [h.1, k.1], fun i v v' h1 h2 => ?_⟩
  by_cases hi : i < xs.length
  · rw [List.getElem?_append_left hi] at h1; rw [List.getElem?_append_left (h.1 ▸ hi)] at h2; exact h.2 i v v' h1 h2
  · have hi1 : xs.length ≤ i := by omega
    have hi2 : ys.length ≤ i := by have := h.1; omega
    rw [List.getElem?_append_right hi1] at h1; rw [List.getElem?_append_right hi2, ← h.1] at h2; exact k.2 _ v v' h1 h2
theorem LDR.take {xs : List SV} {ys : List Value} (h : LDR ρ xs ys) (n : Nat) : LDR ρ (xs.take n) (ys.take n) := by
  refine ⟨by simp [h.1], fun i v v' h1 h2 => ?_⟩
  rw [List.getElem?_take] at h1 h2
  split at h1 <;> simp_all
  exact h.2 i v v' h1 h2
theorem LDR.drop {xs : List SV} {ys : List Value} (h : LDR ρ xs ys) (n : Nat) : LDR ρ (xs.drop n) (ys.drop n) := by
  refine ⟨by simp [h.1], fun i v v' h1 h2 => ?_⟩
  rw [List.getElem?_drop] at h1 h2
  exact h.2 _ v v' h1 h2
theorem LDR.set {xs : List SV} {ys : List Value} (h : LDR ρ xs ys) {u : SV} {u' : Value} (hu : DR ρ u u') (n : Nat) : LDR ρ (xs.set n u) (ys.set n u') := by
  refine ⟨by simp [h.1], fun i v v' h1 h2 => ?_⟩
  rw [List.getElem?_set] at h1 h2
  split at h1
  · rename_i e; subst e
    simp only [if_true] at h2
    split at h1 <;> split at h2 <;> simp_all
  · rename_i e; simp only [e, if_false] at h2; exact h.2 i v v' h1 h2
theorem LDR.rep {v : SV} {v' : Value} (h : DR ρ v v') (n : Nat) : LDR ρ (List.replicate n v) (List.replicate n v') := by
  refine ⟨by simp, fun i u u' h1 h2 => ?_⟩
  rw [List.getElem?_replicate] at h1 h2
  split at h1 <;> simp_all
theorem LDR.splice {xs us : List SV} {ys vs : List Value} (h : LDR ρ xs ys) (k : LDR ρ us vs) (o : Nat) : LDR ρ (xs.take o ++ us ++ xs.drop (o + us.length)) (Eng.splice ys o vs) := by
  unfold Eng.splice
  rw [k.1]
  exact ((h.take o).append k).append (h.drop _)

/-- A value without names. -/
def flatS : SV → Bool
  | .bool _ | .int _ _ | .str _ | .nilp | .nils | .nilf | .nili => true
  | _ => false
theorem DR.flat {v : SV} {v' : Value} (h : DR ρ v v') (hf : flatS v = true) : flatV v' = true := by cases h <;> first | rfl | simp [flatS] at hf
theorem DR.flat_any {v : SV} {v' : Value} (h : DR ρ v v') (hf : flatS v = true) (ρ' : Nm) : DR ρ' v v' := by
  cases h <;> first | (simp [flatS] at hf; done) | constructor
theorem DR.alive {v : SV} {v' : Value} (h : DR ρ v v') : isDead v' = false := by cases h <;> rfl
theorem LDR.flat {xs : List SV} {ys : List Value} (h : LDR ρ xs ys) (hf : xs.all flatS = true) : ys.all flatV = true := by
  induction xs generalizing ys with
  | nil => rw [h.inv_nil]; rfl
  | cons v xs ih =>
    obtain ⟨v', ys', rfl, h1, h2⟩ := h.inv_cons
    simp only [List.all_cons, Bool.and_eq_true] at hf ⊢
    exact ⟨h1.flat hf.1, ih h2 hf.2⟩
theorem LDR.one {xs : List SV} {ys : List Value} (h : LDR ρ xs ys) (hf : xs.all flatS = true) : ys.all (·.oneCell') = true := by
  induction xs generalizing ys with
  | nil => rw [h.inv_nil]; rfl
  | cons v xs ih =>
    obtain ⟨v', ys', rfl, h1, h2⟩ := h.inv_cons
    simp only [List.all_cons, Bool.and_eq_true] at hf ⊢
    exact ⟨by cases h1 <;> simp_all [flatS] <;> rfl, ih h2 hf.2⟩
theorem ET.enc_flat : ∀ (e : ET) (x : e.T), (e.enc x).all flatS = true
  | .int _, _ => rfl
  | .bool, _ => rfl
  | .str, _ => rfl
  | .prod a b, x => by simp only [ET.enc, List.all_append, enc_flat a, enc_flat b, Bool.and_self]
theorem toV_rel {v : SV} (h : flatS v = true) (ρ : Nm) : DR ρ v (toV v) := by
  cases v <;> first | exact .bool _ | exact .int _ _ | exact .str _ | exact .nilp | exact .nils | exact .nilf | exact .nili | simp [flatS] at h
theorem DR.toV_eq {v : SV} {v' : Value} (h : DR ρ v v') (hf : flatS v = true) : v' = toV v := by
  cases h <;> first | rfl | simp [flatS] at hf

/-- What a told value is, is one value. -/
theorem DR.fun {v : SV} {a b : Value} (h : DR ρ v a) (k : DR ρ v b) : a = b := by
  induction h generalizing b with
  | ptr n i o id w h => cases k with | ptr _ _ _ id' w' h' => rw [h] at h'; obtain ⟨rfl, rfl⟩ := Prod.mk.inj (Option.some.inj h'); rfl
  | sl n s m x id w h => cases k with | sl _ _ _ _ id' w' h' => rw [h] at h'; obtain ⟨rfl, rfl⟩ := Prod.mk.inj (Option.some.inj h'); rfl
  | optN n m x id w h hn hx => cases k; rfl
  | optS n m x id w h => cases k with | optS _ _ _ id' w' h' => rw [h] at h'; obtain ⟨rfl, rfl⟩ := Prod.mk.inj (Option.some.inj h'); rfl
  | agg xs ys hl _ ih => cases k with | agg _ zs hl2 h2 =>
      have : ys = zs := List.ext_getElem (by omega) fun i a b => ih i (xs[i]'(by omega)) _ (by simp) (by simp) (h2 i (xs[i]'(by omega)) _ (by simp) (by simp))
      rw [this]
  | tup xs ys hl _ ih => cases k with | tup _ zs hl2 h2 =>
      have : ys = zs := List.ext_getElem (by omega) fun i a b => ih i (xs[i]'(by omega)) _ (by simp) (by simp) (h2 i (xs[i]'(by omega)) _ (by simp) (by simp))
      rw [this]
  | fn f xs ys hl _ ih => cases k with | fn _ _ zs hl2 h2 =>
      have : ys = zs := List.ext_getElem (by omega) fun i a b => ih i (xs[i]'(by omega)) _ (by simp) (by simp) (h2 i (xs[i]'(by omega)) _ (by simp) (by simp))
      rw [this]
  | _ => cases k; rfl

theorem map_toV {xs : List SV} (hs : xs.all flatS = true) (ρ : Nm) : LDR ρ xs (xs.map toV) := by
  refine ⟨by simp, fun i v v' h1 h2 => ?_⟩
  rw [List.getElem?_map, h1] at h2
  simp at h2; subst h2
  exact toV_rel (List.all_eq_true.1 hs v (List.mem_of_getElem? h1)) ρ
theorem flat_all {e : ET} : ∀ (l : List e.T), (l.flatMap e.enc).all flatS = true
  | [] => rfl
  | a :: l => by rw [List.flatMap_cons, List.all_append, e.enc_flat, flat_all l]; rfl

/-! ### the state -/
def getT {α : Type} : List α → Nat → Option α
  | [], _ => none
  | v :: _, 0 => some v
  | _ :: r, n + 1 => getT r n
def setT {α : Type} : List α → Nat → α → List α
  | [], _, _ => []
  | _ :: r, 0, v => v :: r
  | u :: r, n + 1, v => u :: setT r n v
theorem getT_eq {α : Type} : ∀ (l : List α) (i : Nat), getT l i = l[i]?
  | [], _ => by simp [getT]
  | v :: r, 0 => rfl
  | v :: r, n + 1 => by simp [getT, getT_eq r n]
theorem setT_eq {α : Type} : ∀ (l : List α) (i : Nat) (v : α), setT l i v = l.set i v
  | [], _, _ => by simp [setT]
  | u :: r, 0, v => rfl
  | u :: r, n + 1, v => by simp [setT, setT_eq r n]

/-- A row of the abstract heap is as told. -/
def BR (ρ : Nm) : SB → Nat → Blk → Prop
  | .gone, _, _ => True
  | .box cs wr fl, _, b => LDR ρ cs b.cells ∧ b.sz = 0 ∧ (wr = true → b.wr = true) ∧ b.fl = fl
  | .arrO e l sz, w, b => w = e.w ∧ b.sz = sz ∧ b.fl = true ∧ LDR ρ (l.flatMap e.enc) b.cells
  | .arr e l sz wr, w, b => w = e.w ∧ b.sz = sz ∧ (wr = true → b.wr = true) ∧ b.fl = true ∧ LDR ρ (l.flatMap e.enc) b.cells
def isGone : SB → Bool | .gone => true | .arrO _ l _ => l.isEmpty | _ => false
structure Den (ρ : Nm) (S : List SB) (H : Heap) : Prop where
  blk : ∀ (b : Nat) (x : SB), S[b]? = some x → isGone x = false → ∃ id w k, ρ b = some (id, w) ∧ getB H id = some k ∧ BR ρ x w k
  inj : ∀ (b b' id w w' : Nat), ρ b = some (id, w) → ρ b' = some (id, w') → b = b'
theorem BR.mono (hm : NLe ρ ρ') {x : SB} {w : Nat} {k : Blk} (h : BR ρ x w k) : BR ρ' x w k := by
  cases x with
  | gone => trivial
  | box cs wr fl => exact ⟨h.1.mono hm, h.2⟩
  | arr e l sz wr => exact ⟨h.1, h.2.1, h.2.2.1, h.2.2.2.1, h.2.2.2.2.mono hm⟩
  | arrO e l sz => exact ⟨h.1, h.2.1, h.2.2.1, h.2.2.2.mono hm⟩
def TD (ρ : Nm) (v : SV) (v' : Value) : Prop := v = .dead ∨ DR ρ v v'
theorem TD.live {v : SV} {v' : Value} (h : TD ρ v v') (hd : v ≠ .dead) : DR ρ v v' := h.resolve_left hd
theorem TD.mono (hm : NLe ρ ρ') {v : SV} {v' : Value} (h : TD ρ v v') : TD ρ' v v' := h.imp id (DR.ren hm)
def TSD (ρ : Nm) (t : List SV) (t' : List Value) : Prop := t.length = t'.length ∧ ∀ (i : Nat) (v : SV) (v' : Value), t[i]? = some v → t'[i]? = some v' → TD ρ v v'
theorem TSD.mono (hm : NLe ρ ρ') {t : List SV} {t' : List Value} (h : TSD ρ t t') : TSD ρ' t t' := ⟨h.1, fun i v v' a b => (h.2 i v v' a b).mono hm⟩
theorem TSD.set {t : List SV} {t' : List Value} (h : TSD ρ t t') {u : SV} {u' : Value} (hu : TD ρ u u') (n : Nat) : TSD ρ (t.set n u) (t'.set n u') := by
  refine ⟨by simp [h.1], fun i v v' h1 h2 => ?_⟩
  rw [List.getElem?_set] at h1 h2
  split at h1
  · rename_i e; subst e
    simp only [if_true] at h2
    split at h1 <;> split at h2 <;> simp_all
  · rename_i e; simp only [e, if_false] at h2; exact h.2 i v v' h1 h2
theorem TSD.get {t : List SV} {t' : List Value} (h : TSD ρ t t') {i : Nat} {v : SV} (hv : t[i]? = some v) : ∃ v', t'[i]? = some v' ∧ TD ρ v v' := by
  have hi : i < t.length := (List.getElem?_eq_some_iff.1 hv).1
  have hi' : i < t'.length := h.1 ▸ hi
  exact ⟨t'[i], by simp [hi'], h.2 i v _ hv (by simp [hi'])⟩
theorem LDR.ts {xs : List SV} {ys : List Value} (h : LDR ρ xs ys) : TSD ρ xs ys := ⟨h.1, fun i v v' a b => .inr (h.2 i v v' a b)⟩
end
end Go.Proofs.Ytabmmdfhhpajgaa.Eng
