/- A text of this claim (SA): lemmas for the proof, no conditions of their own. -/
import Derived.Test.YtbmejhabgoimeaaEC
set_option linter.unusedVariables false
set_option linter.unusedSimpArgs false
namespace Go.Proofs.Ytbmejhabgoimeaa.Eng
open Go Go.RowKit

/-- The shape of an element. -/
inductive ET where
  | int (k : IntKind) | bool | str | prod (a b : ET)
  deriving DecidableEq
@[reducible] def ET.T : ET → Type
  | .int _ => Int
  | .bool => Bool
  | .str => List UInt8
  | .prod a b => a.T × b.T
/-! ### values with names for rows -/
inductive SV where
  | bool (b : Bool) | int (k : IntKind) (n : Int) | str (s : List UInt8)
  | ptr (b i o : Nat) | nilp | sl (b s n x : Nat) | nils
  | agg (xs : List SV) | tup (xs : List SV) | fn (f : Nat) (xs : List SV) | nilf | nili | dead
  | opt (c : Bool) (b n x : Nat) | arrV (e : ET) (l : List e.T)
def ET.w : ET → Nat
  | .prod a b => a.w + b.w
  | _ => 1
def ET.enc : (e : ET) → e.T → List SV
  | .int k, n => [.int k n]
  | .bool, b => [.bool b]
  | .str, s => [.str s]
  | .prod a b, x => a.enc x.1 ++ b.enc x.2
def ET.dec : (e : ET) → List SV → Option (e.T × List SV)
  | .int k, .int k' n :: r => if k' = k then some (n, r) else none
  | .bool, .bool b :: r => some (b, r)
  | .str, .str s :: r => some (s, r)
  | .prod a b, cs => match a.dec cs with
    | some (x, r) => match b.dec r with
      | some (y, r) => some ((x, y), r)
      | none => none
    | none => none
  | _, _ => none
def ET.zero : (e : ET) → e.T
  | .int _ => (0 : Int)
  | .bool => false
  | .str => []
  | .prod a b => (a.zero, b.zero)
/-- A row: told no more, cells one by one, or elements of one shape. -/
inductive SB where
  | gone
  | box (cs : List SV) (wr fl : Bool)
  | arr (e : ET) (l : List e.T) (sz : Nat) (wr : Bool)
  | arrO (e : ET) (l : List e.T) (sz : Nat)

theorem ET.enc_len : ∀ (e : ET) (x : e.T), (e.enc x).length = e.w
  | .int k, _ => rfl
  | .bool, _ => rfl
  | .str, _ => rfl
  | .prod a b, x => by simp [ET.enc, ET.w, enc_len a, enc_len b]
theorem ET.dec_ok : ∀ (e : ET) (cs : List SV) (x : e.T) (r : List SV), e.dec cs = some (x, r) → cs = e.enc x ++ r
  | .int k, cs, x, r, h => by
    cases cs with
    | nil => simp [ET.dec] at h
    | cons v cs =>
      cases v <;> simp [ET.dec] at h
      obtain ⟨e0, e1, e2⟩ := h; subst e0; subst e1; subst e2; rfl
  | .bool, cs, x, r, h => by
    cases cs with
    | nil => simp [ET.dec] at h
    | cons v cs => cases v <;> simp [ET.dec] at h; obtain ⟨e1, e2⟩ := h; subst e1; subst e2; rfl
  | .str, cs, x, r, h => by
    cases cs with
    | nil => simp [ET.dec] at h
    | cons v cs => cases v <;> simp [ET.dec] at h; obtain ⟨e1, e2⟩ := h; subst e1; subst e2; rfl
  | .prod a b, cs, x, r, h => by
    simp only [ET.dec] at h
    split at h
    · rename_i y r1 h1
      split at h
      · rename_i z r2 h2
        obtain ⟨e1, e2⟩ := Prod.mk.inj (Option.some.inj h); subst e1; subst e2
        rw [dec_ok a _ _ _ h1, dec_ok b _ _ _ h2]; simp [ET.enc]
      · simp at h
    · simp at h

/-- An element's cells. -/
def toV : SV → Value
  | .bool b => .bool b | .int k n => .int k n | .str s => .string ⟨⟨s⟩⟩ | .nilp => .pointer none | .nils => .slice none 0 0 | .nilf => .nilFunc | .nili => .nilIface | _ => dead
/-- Where a name lies: the row of the abstract heap, and how many cells an element has. -/
abbrev Nm := Nat → Option (Nat × Nat)
inductive DR (ρ : Nm) : SV → Value → Prop
  | bool (b : Bool) : DR ρ (.bool b) (.bool b)
  | int (k : IntKind) (n : Int) : DR ρ (.int k n) (.int k n)
  | str (s : List UInt8) : DR ρ (.str s) (.string ⟨⟨s⟩⟩)
  | ptr (b i o id w : Nat) (h : ρ b = some (id, w)) : DR ρ (.ptr b i o) (.pointer (some ⟨id, i * w + o, none⟩))
  | nilp : DR ρ .nilp (.pointer none)
  | sl (b s n x id w : Nat) (h : ρ b = some (id, w)) : DR ρ (.sl b s n x) (.slice (some ⟨id, s * w, none⟩) n (n + x + 1))
  | nils : DR ρ .nils (.slice none 0 0)
  | agg (xs : List SV) (ys : List Value) (hl : xs.length = ys.length) (h : ∀ (i : Nat) (v : SV) (v' : Value), xs[i]? = some v → ys[i]? = some v' → DR ρ v v') : DR ρ (.agg xs) (.agg ⟨ys⟩)
  | tup (xs : List SV) (ys : List Value) (hl : xs.length = ys.length) (h : ∀ (i : Nat) (v : SV) (v' : Value), xs[i]? = some v → ys[i]? = some v' → DR ρ v v') : DR ρ (.tup xs) (.tuple ⟨ys⟩)
  | fn (f : Nat) (xs : List SV) (ys : List Value) (hl : xs.length = ys.length) (h : ∀ (i : Nat) (v : SV) (v' : Value), xs[i]? = some v → ys[i]? = some v' → DR ρ v v') : DR ρ (.fn f xs) (.func (.func f) #[] ⟨ys⟩)
  | optN (b n x id w : Nat) (h : ρ b = some (id, w)) (hn : n = 0) (hx : x = 0) : DR ρ (.opt true b n x) (.slice none 0 0)
  | optS (b n x id w : Nat) (h : ρ b = some (id, w)) : DR ρ (.opt false b n x) (.slice (some ⟨id, 0, none⟩) n (n + x + 1))
  | arrV (e : ET) (l : List e.T) : DR ρ (.arrV e l) (.agg ⟨(l.flatMap e.enc).map toV⟩)
  | nilf : DR ρ .nilf .nilFunc
  | nili : DR ρ .nili .nilIface

def LDR (ρ : Nm) (xs : List SV) (ys : List Value) : Prop := xs.length = ys.length ∧ ∀ (i : Nat) (v : SV) (v' : Value), xs[i]? = some v → ys[i]? = some v' → DR ρ v v'
def NLe (ρ ρ' : Nm) : Prop := ∀ b p, ρ b = some p → ρ' b = some p
theorem NLe.refl (ρ : Nm) : NLe ρ ρ := fun _ _ h => h
theorem NLe.trans {a b c : Nm} (h : NLe a b) (k : NLe b c) : NLe a c := fun n p hp => k n p (h n p hp)

theorem DR.ren {ρ ρ' : Nm} (hm : NLe ρ ρ') {v : SV} {v' : Value} (h : DR ρ v v') : DR ρ' v v' := by
  induction h with
  | bool b => exact .bool b
  | int k n => exact .int k n
  | str s => exact .str s
  | ptr b i o id w h => exact .ptr b i o id w (hm _ _ h)
  | nilp => exact .nilp
  | sl b s n x id w h => exact .sl b s n x id w (hm _ _ h)
  | nils => exact .nils
  | agg xs ys hl _ ih => exact .agg xs ys hl ih
  | tup xs ys hl _ ih => exact .tup xs ys hl ih
  | fn f xs ys hl _ ih => exact .fn f xs ys hl ih
  | optN b n x id w h hn hx => exact .optN b n x id w (hm _ _ h) hn hx
  | optS b n x id w h => exact .optS b n x id w (hm _ _ h)
  | arrV e l => exact .arrV e l
  | nilf => exact .nilf
  | nili => exact .nili
section
variable {ρ ρ' : Nm}
theorem LDR.mono (hm : NLe ρ ρ') {xs : List SV} {ys : List Value} (h : LDR ρ xs ys) : LDR ρ' xs ys := ⟨h.1, fun i v v' a b => (h.2 i v v' a b).ren hm⟩
theorem LDR.nil (ρ : Nm) : LDR ρ [] [] := ⟨rfl, fun i v v' h => by simp at h⟩
theorem LDR.cons {v : SV} {v' : Value} {xs : List SV} {ys : List Value} (h : DR ρ v v') (hs : LDR ρ xs ys) : LDR ρ (v :: xs) (v' :: ys) :=
  ⟨by simp [hs.1], fun i a a' h1 h2 => by
    cases i with
    | zero => simp at h1 h2; subst h1; subst h2; exact h
    | succ i => simp at h1 h2; exact hs.2 i a a' h1 h2⟩
theorem LDR.inv_cons {v : SV} {xs : List SV} {ys : List Value} (h : LDR ρ (v :: xs) ys) : ∃ v' ys', ys = v' :: ys' ∧ DR ρ v v' ∧ LDR ρ xs ys' := by
  cases ys with
  | nil => have := h.1; simp at this
  | cons v' ys' => exact ⟨v', ys', rfl, h.2 0 v v' (by simp) (by simp), by have := h.1; simp at this; exact this, fun i a a' h1 h2 => h.2 (i + 1) a a' (by simpa using h1) (by simpa using h2)⟩
theorem LDR.inv_nil {ys : List Value} (h : LDR ρ [] ys) : ys = [] := List.eq_nil_of_length_eq_zero (by have := h.1; simpa using this.symm)
theorem LDR.get {xs : List SV} {ys : List Value} (h : LDR ρ xs ys) {i : Nat} {v : SV} (hv : xs[i]? = some v) : ∃ v', ys[i]? = some v' ∧ DR ρ v v' := by
  have hi : i < xs.length := (List.getElem?_eq_some_iff.1 hv).1
  have hi' : i < ys.length := h.1 ▸ hi
  exact ⟨ys[i], by simp [hi'], h.2 i v _ hv (by simp [hi'])⟩
theorem LDR.append {xs us : List SV} {ys vs : List Value} (h : LDR ρ xs ys) (k : LDR ρ us vs) : LDR ρ (xs ++ us) (ys ++ vs) := by
  refine ⟨by simp [h.1, k.1], fun i v v' h1 h2 => ?_⟩
  by_cases hi : i < xs.length
  · rw [List.getElem?_append_left hi] at h1; rw [List.getElem?_append_left (h.1 ▸ hi)] at h2; exact h.2 i v v' h1 h2
  · have hi1 : xs.length ≤ i := by omega
    have hi2 : ys.length ≤ i := by have := h.1; omega
    rw [List.getElem?_append_right hi1] at h1; rw [List.getElem?_append_right hi2, ← h.1] at h2; exact k.2 _ v v' h1 h2
theorem LDR.take {xs : List SV} {ys : List Value} (h : LDR ρ xs ys) (n : Nat) : LDR ρ (xs.take n) (ys.take n) := by
  refine ⟨by simp [h.1], fun i v v' h1 h2 => ?_⟩
  rw [List.getElem?_take] at h1 h2
  split at h1 <;> simp_all
  exact h.2 i v v' h1 h2
theorem LDR.drop {xs : List SV} {ys : List Value} (h : LDR ρ xs ys) (n : Nat) : LDR ρ (xs.drop n) (ys.drop n) := by
  refine ⟨by simp [h.1], fun i v v' h1 h2 => ?_⟩
  rw [List.getElem?_drop] at h1 h2
  exact h.2 _ v v' h1 h2
theorem LDR.set {xs : List SV} {ys : List Value} (h : LDR ρ xs ys) {u : SV} {u' : Value} (hu : DR ρ u u') (n : Nat) : LDR ρ (xs.set n u) (ys.set n u') := by
  refine ⟨by simp [h.1], fun i v v' h1 h2 => ?_⟩
  rw [List.getElem?_set] at h1 h2
  split at h1
  · rename_i e; subst e
    simp only [if_true] at h2
    split at h1 <;> split at h2 <;> simp_all
  · rename_i e; simp only [e, if_false] at h2; exact h.2 i v v' h1 h2
theorem LDR.rep {v : SV} {v' : Value} (h : DR ρ v v') (n : Nat) : LDR ρ (List.replicate n v) (List.replicate n v') := by
  refine ⟨by simp, fun i u u' h1 h2 => ?_⟩
  rw [List.getElem?_replicate] at h1 h2
  split at h1 <;> simp_all
theorem LDR.splice {xs us : List SV} {ys vs : List Value} (h : LDR ρ xs ys) (k : LDR ρ us vs) (o : Nat) : LDR ρ (xs.take o ++ us ++ xs.drop (o + us.length)) (Eng.splice ys o vs) := by
  unfold Eng.splice
  rw [k.1]
  exact ((h.take o).append k).append (h.drop _)

/-- A value without names. -/
def flatS : SV → Bool
  | .bool _ | .int _ _ | .str _ | .nilp | .nils | .nilf | .nili => true
  | _ => false
theorem DR.flat {v : SV} {v' : Value} (h : DR ρ v v') (hf : flatS v = true) : flatV v' = true := by cases h <;> first | rfl | simp [flatS] at hf
theorem DR.flat_any {v : SV} {v' : Value} (h : DR ρ v v') (hf : flatS v = true) (ρ' : Nm) : DR ρ' v v' := by
  cases h <;> first | (simp [flatS] at hf; done) | constructor
theorem DR.alive {v : SV} {v' : Value} (h : DR ρ v v') : isDead v' = false := by cases h <;> rfl
theorem LDR.flat {xs : List SV} {ys : List Value} (h : LDR ρ xs ys) (hf : xs.all flatS = true) : ys.all flatV = true := by
  induction xs generalizing ys with
  | nil => rw [h.inv_nil]; rfl
  | cons v xs ih =>
    obtain ⟨v', ys', rfl, h1, h2⟩ := h.inv_cons
    simp only [List.all_cons, Bool.and_eq_true] at hf ⊢
    exact ⟨h1.flat hf.1, ih h2 hf.2⟩
theorem LDR.one {xs : List SV} {ys : List Value} (h : LDR ρ xs ys) (hf : xs.all flatS = true) : ys.all (·.oneCell') = true := by
  induction xs generalizing ys with
  | nil => rw [h.inv_nil]; rfl
  | cons v xs ih =>
    obtain ⟨v', ys', rfl, h1, h2⟩ := h.inv_cons
    simp only [List.all_cons, Bool.and_eq_true] at hf ⊢
    exact ⟨by cases h1 <;> simp_all [flatS] <;> rfl, ih h2 hf.2⟩
theorem ET.enc_flat : ∀ (e : ET) (x : e.T), (e.enc x).all flatS = true
  | .int _, _ => rfl
  | .bool, _ => rfl
  | .str, _ => rfl
  | .prod a b, x => by simp only [ET.enc, List.all_append, enc_flat a, enc_flat b, Bool.and_self]
theorem toV_rel {v : SV} (h : flatS v = true) (ρ : Nm) : DR ρ v (toV v) := by
  cases v <;> first | exact .bool _ | exact .int _ _ | exact .str _ | exact .nilp | exact .nils | exact .nilf | exact .nili | simp [flatS] at h
theorem DR.toV_eq {v : SV} {v' : Value} (h : DR ρ v v') (hf : flatS v = true) : v' = toV v := by
  cases h <;> first | rfl | simp [flatS] at hf

/-- What a told value is, is one value. -/
theorem DR.fun {v : SV} {a b : Value} (h : DR ρ v a) (k : DR ρ v b) : a = b := by
  induction h generalizing b with
  | ptr n i o id w h => cases k with | ptr _ _ _ id' w' h' => rw [h] at h'; obtain ⟨rfl, rfl⟩ := Prod.mk.inj (Option.some.inj h'); rfl
  | sl n s m x id w h => cases k with | sl _ _ _ _ id' w' h' => rw [h] at h'; obtain ⟨rfl, rfl⟩ := Prod.mk.inj (Option.some.inj h'); rfl
  | optN n m x id w h hn hx => cases k; rfl
  | optS n m x id w h => cases k with | optS _ _ _ id' w' h' => rw [h] at h'; obtain ⟨rfl, rfl⟩ := Prod.mk.inj (Option.some.inj h'); rfl
  | agg xs ys hl _ ih => cases k with | agg _ zs hl2 h2 =>
      have : ys = zs := List.ext_getElem (by omega) fun i a b => ih i (xs[i]'(by omega)) _ (by simp) (by simp) (h2 i (xs[i]'(by omega)) _ (by simp) (by simp))
      rw [this]
  | tup xs ys hl _ ih => cases k with | tup _ zs hl2 h2 =>
      have : ys = zs := List.ext_getElem (by omega) fun i a b => ih i (xs[i]'(by omega)) _ (by simp) (by simp) (h2 i (xs[i]'(by omega)) _ (by simp) (by simp))
      rw [this]
  | fn f xs ys hl _ ih => cases k with | fn _ _ zs hl2 h2 =>
      have : ys = zs := List.ext_getElem (by omega) fun i a b => ih i (xs[i]'(by omega)) _ (by simp) (by simp) (h2 i (xs[i]'(by omega)) _ (by simp) (by simp))
      rw [this]
  | _ => cases k; rfl

theorem map_toV {xs : List SV} (hs : xs.all flatS = true) (ρ : Nm) : LDR ρ xs (xs.map toV) := by
  refine ⟨by simp, fun i v v' h1 h2 => ?_⟩
  rw [List.getElem?_map, h1] at h2
  simp at h2; subst h2
  exact toV_rel (List.all_eq_true.1 hs v (List.mem_of_getElem? h1)) ρ
theorem flat_all {e : ET} : ∀ (l : List e.T), (l.flatMap e.enc).all flatS = true
  | [] => rfl
  | a :: l => by rw [List.flatMap_cons, List.all_append, e.enc_flat, flat_all l]; rfl

/-! ### the state -/
def getT {α : Type} : List α → Nat → Option α
  | [], _ => none
  | v :: _, 0 => some v
  | _ :: r, n + 1 => getT r n
def setT {α : Type} : List α → Nat → α → List α
  | [], _, _ => []
  | _ :: r, 0, v => v :: r
  | u :: r, n + 1, v => u :: setT r n v
theorem getT_eq {α : Type} : ∀ (l : List α) (i : Nat), getT l i = l[i]?
  | [], _ => by simp [getT]
  | v :: r, 0 => rfl
  | v :: r, n + 1 => by simp [getT, getT_eq r n]
theorem setT_eq {α : Type} : ∀ (l : List α) (i : Nat) (v : α), setT l i v = l.set i v
  | [], _, _ => by simp [setT]
  | u :: r, 0, v => rfl
  | u :: r, n + 1, v => by simp [setT, setT_eq r n]

/-- A row of the abstract heap is as told. -/
def BR (ρ : Nm) : SB → Nat → Blk → Prop
  | .gone, _, _ => True
  | .box cs wr fl, _, b => LDR ρ cs b.cells ∧ b.sz = 0 ∧ (wr = true → b.wr = true) ∧ b.fl = fl
  | .arrO e l sz, w, b => w = e.w ∧ b.sz = sz ∧ b.fl = true ∧ LDR ρ (l.flatMap e.enc) b.cells
  | .arr e l sz wr, w, b => w = e.w ∧ b.sz = sz ∧ (wr = true → b.wr = true) ∧ b.fl = true ∧ LDR ρ (l.flatMap e.enc) b.cells
def isGone : SB → Bool | .gone => true | .arrO _ l _ => l.isEmpty | _ => false
structure Den (ρ : Nm) (S : List SB) (H : Heap) : Prop where
  blk : ∀ (b : Nat) (x : SB), S[b]? = some x → isGone x = false → ∃ id w k, ρ b = some (id, w) ∧ getB H id = some k ∧ BR ρ x w k
  inj : ∀ (b b' id w w' : Nat), ρ b = some (id, w) → ρ b' = some (id, w') → b = b'
theorem BR.mono (hm : NLe ρ ρ') {x : SB} {w : Nat} {k : Blk} (h : BR ρ x w k) : BR ρ' x w k := by
  cases x with
  | gone => trivial
  | box cs wr fl => exact ⟨h.1.mono hm, h.2⟩
  | arr e l sz wr => exact ⟨h.1, h.2.1, h.2.2.1, h.2.2.2.1, h.2.2.2.2.mono hm⟩
  | arrO e l sz => exact ⟨h.1, h.2.1, h.2.2.1, h.2.2.2.mono hm⟩
def TD (ρ : Nm) (v : SV) (v' : Value) : Prop := v = .dead ∨ DR ρ v v'
theorem TD.live {v : SV} {v' : Value} (h : TD ρ v v') (hd : v ≠ .dead) : DR ρ v v' := h.resolve_left hd
theorem TD.mono (hm : NLe ρ ρ') {v : SV} {v' : Value} (h : TD ρ v v') : TD ρ' v v' := h.imp id (DR.ren hm)
def TSD (ρ : Nm) (t : List SV) (t' : List Value) : Prop := t.length = t'.length ∧ ∀ (i : Nat) (v : SV) (v' : Value), t[i]? = some v → t'[i]? = some v' → TD ρ v v'
theorem TSD.mono (hm : NLe ρ ρ') {t : List SV} {t' : List Value} (h : TSD ρ t t') : TSD ρ' t t' := ⟨h.1, fun i v v' a b => (h.2 i v v' a b).mono hm⟩
theorem TSD.set {t : List SV} {t' : List Value} (h : TSD ρ t t') {u : SV} {u' : Value} (hu : TD ρ u u') (n : Nat) : TSD ρ (t.set n u) (t'.set n u') := by
  refine ⟨by simp [h.1], fun i v v' h1 h2 => ?_⟩
  rw [List.getElem?_set] at h1 h2
  split at h1
  · rename_i e; subst e
    simp only [if_true] at h2
    split at h1 <;> split at h2 <;> simp_all
  · rename_i e; simp only [e, if_false] at h2; exact h.2 i v v' h1 h2
theorem TSD.get {t : List SV} {t' : List Value} (h : TSD ρ t t') {i : Nat} {v : SV} (hv : t[i]? = some v) : ∃ v', t'[i]? = some v' ∧ TD ρ v v' := by
  have hi : i < t.length := (List.getElem?_eq_some_iff.1 hv).1
  have hi' : i < t'.length := h.1 ▸ hi
  exact ⟨t'[i], by simp [hi'], h.2 i v _ hv (by simp [hi'])⟩
theorem LDR.ts {xs : List SV} {ys : List Value} (h : LDR ρ xs ys) : TSD ρ xs ys := ⟨h.1, fun i v v' a b => .inr (h.2 i v v' a b)⟩
end
end Go.Proofs.Ytbmejhabgoimeaa.Eng
set_option linter.unusedVariables false
set_option linter.unusedSimpArgs false
namespace Go.Proofs.Ytbmejhabgoimeaa.Eng
open Go Go.RowKit

/-! ### operations on the told side: what is to be shown is told, the rest is computed -/
/-- Something that is left to be shown. -/
structure VC (P : Prop) : Prop where
  h : P
/-- A test: both ways where it is not known. -/
structure splitB (q : Bool) (A B : Prop) : Prop where
  t : q = true → A
  f : q = false → B
theorem splitT {A B : Prop} (h : A) : splitB true A B := ⟨fun _ => h, fun e => by simp at e⟩
theorem splitF {A B : Prop} (h : B) : splitB false A B := ⟨fun e => by simp at e, fun _ => h⟩
def ofV : Value → Option SV
  | .bool b => some (.bool b)
  | .int k n => some (.int k n)
  | .string s => some (.str s.data.toList)
  | .pointer none => some .nilp
  | .slice none 0 0 => some .nils
  | .nilFunc => some .nilf
  | .nilIface => some .nili
  | _ => none
def ofVs : List Value → Option (List SV)
  | [] => some []
  | v :: r => match ofV v with
    | some s => match ofVs r with
      | some l => some (s :: l)
      | none => none
    | none => none
def liveS : SV → Option SV
  | .dead => none
  | v => some v
def evS (t : List SV) : Operand → Option SV
  | .tmp i => match getT t i with | some v => liveS v | none => none
  | .const v => ofV v
  | .func f => some (.fn f [])
  | .global _ => none
def evK (t : List SV) (x : Operand) (K : SV → Prop) : Prop := match evS t x with | some v => K v | none => False
def evsK (t : List SV) : List Operand → (List SV → Prop) → Prop
  | [], K => K []
  | x :: r, K => evK t x fun v => evsK t r fun l => K (v :: l)
def evPK (t : List SV) : List (Nat × Operand) → (List (Nat × SV) → Prop) → Prop
  | [], K => K []
  | (i, x) :: r, K => evK t x fun v => evPK t r fun l => K ((i, v) :: l)
def forceL {α : Type} : List α → (List α → Prop) → Prop
  | [], K => K []
  | v :: r, K => forceL r fun r' => K (v :: r')
def atL {α : Type} : List α → Nat → (α → Prop) → Prop
  | [], _, _ => False
  | a :: _, 0, K => K a
  | _ :: l, n + 1, K => atL l n K
def setK {α : Type} : List α → Nat → α → (List α → Prop) → Prop
  | [], _, _, K => K []
  | _ :: r, 0, v, K => K (v :: r)
  | u :: r, n + 1, v, K => setK r n v fun r' => K (u :: r')
def nums : List Nat := [0, 1, 2, 3, 4, 5, 6, 7, 8, 9, 10, 11, 12, 13, 14, 15, 16, 17, 18, 19, 20, 21, 22, 23, 24, 25, 26, 27, 28, 29, 30, 31, 32, 33, 34, 35, 36, 37, 38, 39, 40, 41, 42, 43, 44, 45, 46, 47, 48, 49, 50, 51, 52, 53, 54, 55, 56, 57, 58, 59, 60, 61, 62, 63, 64, 65, 66, 67, 68, 69, 70, 71, 72, 73, 74, 75, 76, 77, 78, 79, 80, 81, 82, 83, 84, 85, 86, 87, 88, 89, 90, 91, 92, 93, 94, 95, 96, 97, 98, 99]
def pushK (x : SB) : List SB → List Nat → (Nat → List SB → Prop) → Prop
  | [], n :: _, K => K n [x]
  | s :: r, _ :: ns, K => pushK x r ns fun n r' => K n (s :: r')
  | _, [], _ => False
def seg {α : Type} (l : List α) (o n : Nat) : List α := (l.drop o).take n
def spliceS (cs : List SV) (o : Nat) (vs : List SV) : List SV := cs.take o ++ vs ++ cs.drop (o + vs.length)
def cellsS : SV → List SV
  | .agg xs => xs
  | .arrV e l => l.flatMap e.enc
  | v => [v]

/-- The shape that a type's elements are given (a guess: it is checked where it is used). -/
def etFs (g : Nat → Option ET) : List Field → Option ET
  | [] => none
  | [f] => g f.type
  | f :: r => match g f.type with
    | some a => match etFs g r with
      | some b => some (.prod a b)
      | none => none
    | none => none
def etN (a : ET) : Nat → Option ET
  | 0 => none
  | 1 => some a
  | n + 1 => match etN a n with | some b => some (.prod a b) | none => none
def etF (T : Ty) : Nat → Nat → Option ET
  | 0, _ => none
  | n + 1, t => match T t with
    | none => none
    | some d => match d.und with
      | .int k => some (.int k)
      | .bool => some .bool
      | .string => some .str
      | .struct fs => etFs (etF T n) fs.toList
      | .array len e => match etF T n e with | some a => etN a len | none => none
      | _ => none
def decN (e : ET) : Nat → List SV → Option (List e.T)
  | 0, [] => some []
  | 0, _ :: _ => none
  | n + 1, cs => match e.dec cs with
    | some (x, r) => match decN e n r with
      | some l => some (x :: l)
      | none => none
    | none => none

def cnt (d : TyD) : Nat := match aggD d.und with | true => d.size | false => 1
def outS (d : TyD) (cs : List SV) (K : SV → Prop) : Prop :=
  forceL cs fun cs => match aggD d.und with
    | true => K (.agg cs)
    | false => match cs with | [v] => K v | _ => False
def loadS (d : TyD) (S : List SB) (v : SV) (K : SV → Prop) : Prop :=
  match v with
  | .ptr b i o => match getT S b with
    | some (.arr e l _ _) => match Nat.ble (o + cnt d) e.w with
      | true => atL l i fun a => outS d (seg (e.enc a) o (cnt d)) K
      | false => match d.und with
        | .array len _ => match o with
          | 0 => match Nat.beq (len * e.w) d.size with
            | true => VC (i + len ≤ l.length) ∧ K (.arrV e (seg l i len))
            | false => False
          | _ + 1 => False
        | _ => False
    | some (.box cs _ _) => match i with
      | 0 => match Nat.ble (o + cnt d) cs.length with
        | true => outS d (seg cs o (cnt d)) K
        | false => False
      | _ + 1 => False
    | _ => False
  | _ => False
def putB (k : Nat) (S : List SB) (b : Nat) (i o : Nat) (cs : List SV) (K : List SB → Prop) : Prop :=
  match getT S b with
  | some (.arr e l sz true) => match Nat.ble (o + cs.length) e.w with
    | true => atL l i fun a => match e.dec (spliceS (e.enc a) o cs) with
      | some (a', []) => setK S b (.arr e (l.set i a') sz true) K
      | _ => False
    | false => False
  | some (.box cs0 true fl) => match i with
    | 0 => match Nat.ble (o + cs.length) cs0.length with
      | true => match (cs.all flatS || (!fl && Nat.ble k b && cs.all (fun v => match v with | .agg _ => false | .tup _ => false | .arrV _ _ => false | _ => true))) with
        | true => forceL (spliceS cs0 o cs) fun cs' => setK S b (.box cs' true fl) K
        | false => False
      | false => False
    | _ + 1 => False
  | _ => False
/-- A whole row is written. -/
def putA (d : TyD) (S : List SB) (b : Nat) (e : ET) (l : List e.T) (K : List SB → Prop) : Prop :=
  match getT S b with
  | some (.arr e' l0 sz true) => if h : e' = e then VC (l.length = l0.length ∧ l.length * e.w = d.size) ∧ setK S b (.arr e l sz true) K else False
  | _ => False
def putV (k : Nat) (d : TyD) (S : List SB) (b i o : Nat) (y : SV) (K : List SB → Prop) : Prop :=
  forceL (cellsS y) fun cs => match Nat.beq cs.length d.size with
    | true => putB k S b i o cs K
    | false => False
def storeS (k : Nat) (d : TyD) (S : List SB) (v y : SV) (K : List SB → Prop) : Prop :=
  match v with
  | .ptr b i o => match d.und with
    | .array len _ => match i with
      | 0 => match o with
        | 0 => match y with
          | .arrV e l => putA d S b e l K
          | y => forceL (cellsS y) fun cs => match Nat.beq cs.length d.size with
            | true => match getT S b with
              | some (.arr e _ _ _) => match decN e len cs with
                | some l => putA d S b e l K
                | none => False
              | _ => putB k S b 0 0 cs K
            | false => False
        | o + 1 => putV k d S b 0 (o + 1) y K
      | i + 1 => putV k d S b (i + 1) o y K
    | _ => putV k d S b i o y K
  | _ => False
def intS (op : BinOp) (k : IntKind) (a b : Int) (K : SV → Prop) : Prop :=
  match op with
  | .add => K (.int k (k.wrap (a + b)))
  | .sub => K (.int k (k.wrap (a - b)))
  | .mul => K (.int k (k.wrap (a * b)))
  | .quo => VC (b ≠ 0) ∧ K (.int k (k.wrap (a.tdiv b)))
  | .rem => VC (b ≠ 0) ∧ K (.int k (a.tmod b))
  | .eql => K (.bool (decide (a = b)))
  | .neq => K (.bool (decide (a ≠ b)))
  | .lss => K (.bool (decide (a < b)))
  | .leq => K (.bool (decide (a ≤ b)))
  | .gtr => K (.bool (decide (b < a)))
  | .geq => K (.bool (decide (b ≤ a)))
  | _ => False
def strS (op : BinOp) (a b : List UInt8) (K : SV → Prop) : Prop :=
  match op with
  | .add => VC (a.length + b.length ≤ 9223372036854775807) ∧ K (.str (a ++ b))
  | .eql => K (.bool (decide (a = b)))
  | .neq => K (.bool (decide (a ≠ b)))
  | .lss => K (.bool (Op.bytesLess a b))
  | _ => False
def partS (T : Ty) (t : Nat) (cs : List SV) (off : Nat) : Option SV :=
  match T t with
  | some d => match aggD d.und with
    | true => match Nat.ble (off + d.size) cs.length with | true => some (.agg (seg cs off d.size)) | false => none
    | false => getT cs off
  | none => none
def eqFS (T : Ty) (e : Nat → SV → SV → Option Bool) : List Field → List SV → List SV → Option Bool
  | [], _, _ => some true
  | f :: r, xs, ys => match f.name == "_" with
    | true => none
    | false => match partS T f.type xs f.offset with
      | some a => match partS T f.type ys f.offset with
        | some b => match e f.type a b with
          | some p => match r with
            | [] => some p
            | _ :: _ => match eqFS T e r xs ys with
              | some q => some (p && q)
              | none => none
          | none => none
        | none => none
      | none => none
def eqS (T : Ty) (Q : Nat → Bool) : Nat → Nat → SV → SV → Option Bool
  | 0, _, _, _ => none
  | n + 1, t, x, y => match T t with
    | none => none
    | some d => match d.und with
      | .bool => match x, y with | .bool a, .bool b => some (a == b) | _, _ => none
      | .int _ => match x, y with | .int k a, .int k' b => if k = k' then some (decide (a = b)) else none | _, _ => none
      | .string => match x, y with | .str a, .str b => some (decide (a = b)) | _, _ => none
      | .struct fs => match x, y with
        | .agg xs, .agg ys => match Q t with | true => eqFS T (eqS T Q n) fs.toList xs ys | false => none
        | _, _ => none
      | _ => none
def isBoolD : Option TyD → Bool
  | some d => match d.und with | .bool => true | _ => false
  | none => false
def binS (T : Ty) (Q : Nat → Bool) (op : BinOp) (t : Nat) (x y : SV) (K : SV → Prop) : Prop :=
  match x, y with
  | .int k a, .int k' b => match op with
    | .shl => VC (0 ≤ b) ∧ K (.int k (k.wrap (a * 2 ^ (min b.toNat k.bits))))
    | .shr => VC (0 ≤ b) ∧ K (.int k (a.fdiv (2 ^ (min b.toNat k.bits))))
    | op => match decide (k = k') with | true => intS op k a b K | false => False
  | .str a, .str b => strS op a b K
  | .bool a, .bool b => match isBoolD (T t) with
    | true => match op with
      | .eql => K (.bool (a == b))
      | .neq => K (.bool (!(a == b)))
      | _ => False
    | false => False
  | .agg xs, .agg ys => match op with
    | .eql => match eqS T Q 9 t (.agg xs) (.agg ys) with | some r => K (.bool r) | none => False
    | .neq => match eqS T Q 9 t (.agg xs) (.agg ys) with | some r => K (.bool (!r)) | none => False
    | _ => False
  | _, _ => False
def convS (T : Ty) (s d : Nat) (x : SV) (K : SV → Prop) : Prop :=
  match T s with
  | none => False
  | some _ => match T d with
    | none => False
    | some dd => match x with
      | .int _ n => match dd.und with | .int k => K (.int k (k.wrap n)) | _ => False
      | .str b => match dd.und with | .string => K (.str b) | _ => False
      | _ => False
def optK (t : List SV) : Option Operand → (Option Int → Prop) → Prop
  | none, K => K none
  | some x, K => evK t x fun v => match v with | .int _ n => K (some n) | _ => False
def fillS (place : Nat → Option (Nat × Nat)) (cells : List SV) : List (Nat × SV) → Option (List SV)
  | [] => some cells
  | (i, v) :: rest => match place i with
    | none => none
    | some (off, size) => match Nat.beq (cellsS v).length size && Nat.ble (off + (cellsS v).length) cells.length with
      | true => fillS place (spliceS cells off (cellsS v)) rest
      | false => none
def buildS (T : Ty) (d : TyD) (l : List (Nat × SV)) (K : SV → Prop) : Prop :=
  match d.und with
  | .struct fs => match offsL T fs.toList with
    | some pl => match ofVs d.zero with
      | some z => match fillS (fun i => getT pl i) z l with
        | some cs => forceL cs fun cs => K (.agg cs)
        | none => False
      | none => False
    | none => False
  | .array _ e => match T e with
    | some de => match ofVs d.zero with
      | some z => match fillS (fun i => some (i * de.size, de.size)) z l with
        | some cs => forceL cs fun cs => K (.agg cs)
        | none => False
      | none => False
    | none => False
  | _ => False
def repL {α : Type} (z : List α) : Nat → List α
  | 0 => []
  | n + 1 => z ++ repL z n
/-- An element's shape, and what is zero of it. -/
def elemK (T : Ty) (ty : Nat) (K : (e : ET) → e.T → TyD → Prop) : Prop :=
  match T ty with
  | some d => match d.und with
    | .slice el => match T el with
      | some de => match etF T 9 el with
        | some e => match Nat.beq de.size e.w with
          | true => match de.fl with
            | true => match ofVs de.zero with
              | some z => match e.dec z with
                | some (x, []) => K e x de
                | _ => False
              | none => False
            | false => False
          | false => False
        | none => False
      | none => False
    | _ => False
  | none => False
/-- The row that a variable of a type is. -/
def newB (T : Ty) (ty : Nat) (d : TyD) (cs : List SV) (fl : Bool) : Option SB :=
  match fl with
  | false => some (.box cs true false)
  | true => match d.und with
    | .array len el => match T el with
      | some de => match etF T 9 el with
        | some e => match Nat.beq de.size e.w with
          | true => match decN e len cs with
            | some l => some (.arr e l 0 true)
            | none => none
          | false => none
        | none => none
      | none => none
    | _ => match etF T 9 ty with
      | some e => match e.dec cs with
        | some (x, []) => some (.arr e [x] 0 true)
        | _ => some (.box cs true true)
      | none => some (.box cs true true)
def newS (T : Ty) (S : List SB) (ty : Nat) (d : TyD) (cs : List SV) (fl : Bool) (K : Nat → List SB → Prop) : Prop :=
  match newB T ty d cs fl with
  | some x => pushK x S nums K
  | none => False
def sliceS (T : Ty) (ty : Nat) (S : List SB) (v : SV) (lo hi mx : Option Int) (K : SV → Prop) : Prop :=
  match T ty with
  | none => False
  | some d => match v with
    | .str s => match d.und with
      | .string => match mx with
        | none => match lo, hi with
          | none, none => K (.str s)
          | some l, none => VC (0 ≤ l ∧ l ≤ s.length) ∧ K (.str (s.drop l.toNat))
          | none, some h => VC (0 ≤ h ∧ h ≤ s.length) ∧ K (.str (s.take h.toNat))
          | some l, some h => VC (0 ≤ l ∧ l ≤ h ∧ h ≤ s.length) ∧ K (.str ((s.take h.toNat).drop l.toNat))
        | some _ => False
      | _ => False
    | .sl b s n x => match d.und with
      | .slice el => match T el with
        | some de => match getT S b with
          | some (.arr e _ sz _) => match Nat.beq sz de.size && Nat.beq e.w de.size with
            | true => match mx with
              | none => match lo, hi with
                | none, none => K (.sl b s n x)
                | some l, none => VC (0 ≤ l ∧ l ≤ n) ∧ K (.sl b (s + l.toNat) (n - l.toNat) x)
                | none, some h => VC (0 ≤ h ∧ h ≤ n + x) ∧ K (.sl b s h.toNat (n + x - h.toNat))
                | some l, some h => VC (0 ≤ l ∧ l ≤ h ∧ h ≤ n + x) ∧ K (.sl b (s + l.toNat) (h.toNat - l.toNat) (n + x - h.toNat))
              | some m => match hi with
                | none => False
                | some h => VC (0 ≤ lo.getD 0 ∧ lo.getD 0 ≤ h ∧ h ≤ m ∧ m ≤ n + x) ∧ K (.sl b (s + (lo.getD 0).toNat) (h.toNat - (lo.getD 0).toNat) (m.toNat - h.toNat))
            | false => False
          | _ => False
        | none => False
      | _ => False
    | _ => False
def maxS (k : IntKind) : Int → List SV → (SV → Prop) → Prop
  | x, [], K => K (.int k x)
  | x, .int _ y :: r, K => maxS k (if y > x then y else x) r K
  | _, _ :: _, _ => False
def minS (k : IntKind) : Int → List SV → (SV → Prop) → Prop
  | x, [], K => K (.int k x)
  | x, .int _ y :: r, K => minS k (if y < x then y else x) r K
  | _, _ :: _, _ => False
/-- The elements of a slice. -/
def rowS (S : List SB) (e : ET) (v : SV) (K : List e.T → Prop) : Prop :=
  match v with
  | .nils => K []
  | .sl b s n _ => match getT S b with
    | some (.arr e' l _ _) => if h : e' = e then VC (s + n ≤ l.length) ∧ K (seg (h ▸ l) s n) else False
    | _ => False
  | _ => False
def killK (S : List SB) (b : Nat) (K : List SB → Prop) : Prop := setK S b .gone K
def lenS : SV → Option Nat
  | .nils => some 0
  | .sl _ _ n _ => some n
  | _ => none
def appendS (T : Ty) (k ty ty2 : Nat) (S : List SB) (s v : SV) (K : SV → List SB → Prop) : Prop :=
  match Nat.beq ty ty2 with
  | false => False
  | true => elemK T ty fun e z de => match lenS v with
    | none => False
    | some m => (m = 0 → (match s with | .sl _ _ _ _ => K s S | .nils => K s S | _ => False)) ∧ (m ≠ 0 → rowS S e v fun news => match s with
      | .nils => VC (m * de.bytes ≤ 140737488355328 ∧ m ≤ 9223372036854775807) ∧ pushK (.arr e news de.size true) S nums fun n S' => K (.sl n 0 m 0) S'
      | .sl b st n x => rowS S e s fun olds => VC ((n + m) * de.bytes ≤ 140737488355328 ∧ n + m ≤ 9223372036854775807) ∧ match x with
        | 0 => (match getT S b with
          | some (.arr _ _ sz true) => match Nat.beq sz de.size with
            | true => killK S b fun S1 => pushK (.arr e (olds ++ news) de.size true) S1 nums fun n' S' => K (.sl n' 0 (n + m) 0) S'
            | false => False
          | _ => False)
        | x + 1 => False
      | _ => False)
def opS (T : Ty) (Q : Nat → Bool) (k : Nat) (t : List SV) (S : List SB) (op : Op) (K : SV → List SB → Prop) : Prop :=
  match op with
  | .move x => evK t x fun v => K v S
  | .assign x => evK t x fun v => K v S
  | .pick c a b => evK t c fun v => match v with
    | .bool q => splitB q (evK t a fun v => K v S) (evK t b fun v => K v S)
    | _ => False
  | .alloc ty => match T ty with
    | some d => match ofVs d.zero with
      | some cs => newS T S ty d cs d.fl fun n S' => K (.ptr n 0 0) S'
      | none => False
    | none => False
  | .box ty x => match T ty with
    | some d => evK t x fun v => match v with
      | .arrV e l => match d.fl with | true => pushK (.arr e l 0 true) S nums fun n S' => K (.ptr n 0 0) S' | false => False
      | v => match !d.fl || (cellsS v).all flatS with
        | true => newS T S ty d (cellsS v) d.fl fun n S' => K (.ptr n 0 0) S'
        | false => False
    | none => False
  | .build ty parts => match T ty with
    | some d => evPK t parts.toList fun l => buildS T d l fun v => K v S
    | none => False
  | .buildSlice ty len parts => elemK T ty fun e z de => evPK t parts.toList fun l => match Nat.ble (len * de.size) 16777216 with
    | true => match ofVs de.zero with
      | some zs => match fillS (fun i => some (i * de.size, de.size)) (repL zs len) l with
        | some cs => match decN e len cs with
          | some l => pushK (.arr e l de.size true) S nums fun n S' => K (.sl n 0 len 0) S'
          | none => False
        | none => False
      | none => False
    | false => False
  | .load ty x => match T ty with
    | some d => evK t x fun v => loadS d S v fun v => K v S
    | none => False
  | .store ty x y => match T ty with
    | some d => evK t x fun v => evK t y fun u => storeS k d S v u fun S' => K (.tup []) S'
    | none => False
  | .nilCheck x => evK t x fun v => match v with
    | .ptr b i o => K v S
    | .fn f xs => K v S
    | _ => False
  | .binOp op ty x y _ => evK t x fun v => evK t y fun u => binS T Q op ty v u fun v => K v S
  | .unOp op _ x => evK t x fun v => match op with
    | .neg => match v with | .int k n => K (.int k (k.wrap (0 - n))) S | _ => False
    | .not => match v with | .bool b => K (.bool (!b)) S | _ => False
    | _ => False
  | .convert s d x => evK t x fun v => convS T s d v fun v => K v S
  | .makeFunc f first caps => match f with
    | .func f => match first.toList with
      | [] => evsK t caps.toList fun l => K (.fn f l) S
      | _ :: _ => False
    | _ => False
  | .makeSlice ty l c => elemK T ty fun e z de => evK t l fun v => evK t c fun u => match v with
    | .int _ n => match u with
      | .int _ m => VC (0 ≤ n ∧ n = m ∧ (de.bytes : Int) * n ≤ 281474976710656 ∧ n ≤ 9223372036854775807) ∧ pushK (.arr e (List.replicate n.toNat z) de.size true) S nums fun b S' => K (.sl b 0 n.toNat 0) S'
      | _ => False
    | _ => False
  | .slice ty x lo hi mx => evK t x fun v => optK t lo fun l => optK t hi fun h => optK t mx fun m => sliceS T ty S v l h m fun v => K v S
  | .fieldAddr ty x f => evK t x fun v => match v with
    | .ptr b i o => match T ty with
      | some d => match d.und with
        | .struct fs => match getT fs.toList f with
          | some fd => match T fd.type with
            | some df => match Nat.beq df.size 0 with
              | true => False
              | false => K (.ptr b i (o + fd.offset)) S
            | none => False
          | none => False
        | _ => False
      | none => False
    | _ => False
  | .field ty x f => evK t x fun v => match v with
    | .agg xs => match T ty with
      | some d => match d.und with
        | .struct fs => match getT fs.toList f with
          | some fd => match T fd.type with
            | some df => match Nat.ble (fd.offset + cnt df) xs.length with
              | true => outS df (seg xs fd.offset (cnt df)) fun v => K v S
              | false => False
            | none => False
          | none => False
        | _ => False
      | none => False
    | _ => False
  | .indexAddr ty x i => evK t x fun v => evK t i fun u => match T ty with
    | some d => match u with
      | .int _ n => match d.und with
        | .slice el => match v with
          | .sl b s len x => match T el with
            | some de => match getT S b with
              | some (.arr e l _ _) => match Nat.beq e.w de.size with
                | true => VC (0 ≤ n ∧ n < (len : Int)) ∧ K (.ptr b (s + n.toNat) 0) S
                | false => False
              | _ => False
            | none => False
          | _ => False
        | .array len el => match v with
          | .ptr b i 0 => match T el with
            | some de => match getT S b with
              | some (.arr e l _ _) => match Nat.beq e.w de.size with
                | true => VC (0 ≤ n ∧ n < (len : Int)) ∧ K (.ptr b (i + n.toNat) 0) S
                | false => False
              | _ => False
            | none => False
          | _ => False
        | _ => False
      | _ => False
    | none => False
  | .index ty x i => evK t x fun v => evK t i fun u => match T ty with
    | some d => match u with
      | .int _ n => match d.und with
        | .string => match v with
          | .str s => VC (0 ≤ n) ∧ atL s n.toNat fun c => K (.int .u8 (c.toNat : Int)) S
          | _ => False
        | .array len el => match v with
          | .arrV e l => match T el with
            | some de => match Nat.beq e.w de.size with
              | true => VC (0 ≤ n ∧ n < (len : Int)) ∧ atL l n.toNat fun a => outS de (e.enc a) fun v => K v S
              | false => False
            | none => False
          | .agg cs => match T el with
            | some de => match aggD de.und with
              | true => False
              | false => match Nat.beq de.size 1 with
                | true => VC (0 ≤ n ∧ n < (len : Int)) ∧ atL cs n.toNat fun v => K v S
                | false => False
            | none => False
          | _ => False
        | _ => False
      | _ => False
    | none => False
  | .extract x i => evK t x fun v => match v with
    | .tup vs => match getT vs i with | some v => K v S | none => False
    | _ => False
  | .call c => match c.callee with
    | .builtin b => evsK t c.args.toList fun l => match b with
      | .len => match c.argTypes.toList with
        | ty :: _ => match l with
          | x :: _ => match T ty with
            | some d => match d.und with
              | .string => match x with | .str s => K (.int .i64 s.length) S | _ => False
              | .array n _ => K (.int .i64 n) S
              | .slice _ => match x with
                | .sl _ _ n _ => K (.int .i64 n) S
                | .opt _ _ n _ => K (.int .i64 n) S
                | .nils => K (.int .i64 0) S
                | _ => False
              | _ => False
            | none => False
          | [] => False
        | [] => False
      | .max => match l with | .int k x :: r => maxS k x r fun v => K v S | _ => False
      | .min => match l with | .int k x :: r => minS k x r fun v => K v S | _ => False
      | .append => match c.argTypes.toList with
        | [t1, t2] => match l with
          | [s, x] => appendS T k t1 t2 S s x K
          | _ => False
        | _ => False
      | _ => False
    | _ => False
  | _ => False
end Go.Proofs.Ytbmejhabgoimeaa.Eng
set_option linter.unusedVariables false
set_option linter.unusedSimpArgs false
namespace Go.Proofs.Ytbmejhabgoimeaa.Eng
open Go Go.RowKit

/-! ### what is computed is so: helpers -/
section
variable {α : Type} {ρ ρ' : Nm} {S S' : List SB} {H H' : Heap} {t : List SV} {t' : List Value}
theorem forceL_iff {l : List α} : ∀ {K : List α → Prop}, forceL l K ↔ K l := by
  induction l with
  | nil => intro K; rfl
  | cons v r ih => intro K; simp only [forceL]; exact ih
theorem atL_iff : ∀ {l : List α} {i : Nat} {K : α → Prop}, atL l i K ↔ ∃ a, l[i]? = some a ∧ K a
  | [], i, K => by simp [atL]
  | a :: l, 0, K => by simp [atL]
  | a :: l, n + 1, K => by simp only [atL]; rw [atL_iff]; simp
theorem setK_iff : ∀ {l : List α} {i : Nat} {v : α} {K : List α → Prop}, setK l i v K ↔ K (l.set i v)
  | [], _, _, K => by simp [setK]
  | u :: r, 0, v, K => by simp [setK]
  | u :: r, n + 1, v, K => by simp only [setK]; rw [setK_iff]; simp
theorem pushK_gen {x : SB} : ∀ {S : List SB} {ns : List Nat} {m : Nat} {K : Nat → List SB → Prop}, (∀ i n, ns[i]? = some n → n = m + i) → pushK x S ns K → K (m + S.length) (S ++ [x])
  | [], [], m, K, _, h => h.elim
  | _ :: _, [], m, K, _, h => by simp [pushK] at h
  | [], n :: ns, m, K, hn, h => by
    have := hn 0 n rfl
    simp only [pushK] at h; subst this; exact h
  | s :: r, n :: ns, m, K, hn, h => by
    simp only [pushK] at h
    have := pushK_gen (m := m + 1) (fun i n' hi => by have := hn (i + 1) n' (by simpa using hi); omega) h
    simpa [Nat.add_assoc, Nat.add_comm 1] using this
theorem nums_range : nums = List.range 100 := by decide
theorem nums_at : ∀ i n, nums[i]? = some n → n = 0 + i := by
  intro i n h
  rw [nums_range] at h
  have hi : i < (List.range 100).length := (List.getElem?_eq_some_iff.1 h).1
  rw [List.getElem?_eq_getElem hi] at h
  have := Option.some.inj h
  simp at this; omega
theorem pushK_ok {x : SB} {K : Nat → List SB → Prop} (h : pushK x S nums K) : K S.length (S ++ [x]) := by
  have := pushK_gen (m := 0) nums_at h
  simpa using this

theorem ofV_ok {v : Value} {s : SV} (h : ofV v = some s) : flatS s = true ∧ DR ρ s v := by
  unfold ofV at h
  split at h <;> first | (simp at h; done) | (obtain rfl := Option.some.inj h)
  · exact ⟨rfl, .bool _⟩
  · exact ⟨rfl, .int _ _⟩
  · exact ⟨rfl, .str _⟩
  · exact ⟨rfl, .nilp⟩
  · exact ⟨rfl, .nils⟩
  · exact ⟨rfl, .nilf⟩
  · exact ⟨rfl, .nili⟩
theorem ofVs_ok : ∀ {vs : List Value} {l : List SV}, ofVs vs = some l → LDR ρ l vs ∧ l.all flatS = true
  | [], l, h => by simp [ofVs] at h; subst h; exact ⟨.nil ρ, rfl⟩
  | v :: r, l, h => by
    simp only [ofVs] at h
    split at h
    · rename_i s hs
      split at h
      · rename_i l' hl'
        obtain rfl := Option.some.inj h
        have h1 := ofV_ok (ρ := ρ) hs
        have h2 := ofVs_ok (vs := r) hl'
        exact ⟨.cons h1.2 h2.1, by simp [h1.1, h2.2]⟩
      · simp at h
    · simp at h
theorem liveS_ok {v u : SV} (h : liveS v = some u) : u = v ∧ v ≠ .dead := by
  cases v <;> simp [liveS] at h <;> exact ⟨h.symm, by simp⟩
theorem evL_ev {x : Operand} {v : Value} (h : evL t' x = some v) : ev t' x = some v := by
  unfold evL at h
  split at h
  · rename_i u hu
    split at h
    · simp at h
    · rw [hu]; exact h
  · simp at h
theorem evS_ok (ht : TSD ρ t t') {x : Operand} {v : SV} (h : evS t x = some v) : ∃ v', evL t' x = some v' ∧ DR ρ v v' := by
  cases x with
  | tmp i =>
    simp only [evS, getT_eq] at h
    split at h
    · rename_i u hu
      obtain ⟨rfl, hd⟩ := liveS_ok h
      obtain ⟨v', hv', hr⟩ := ht.get hu
      have hr := hr.live hd
      exact ⟨v', by simp [evL, ev, hv', hr.alive], hr⟩
    · simp at h
  | const c =>
    simp only [evS] at h
    obtain ⟨h1, h2⟩ := ofV_ok (ρ := ρ) h
    exact ⟨c, by simp [evL, ev, h2.flat h1, h2.alive], h2⟩
  | func f =>
    simp only [evS] at h; obtain rfl := Option.some.inj h
    exact ⟨.func (.func f) #[] #[], by simp [evL, ev, isDead], .fn f [] [] rfl fun i v v' h => by simp at h⟩
  | global g => simp [evS] at h
theorem evK_ok (ht : TSD ρ t t') {x : Operand} {K : SV → Prop} (h : evK t x K) : ∃ v v', K v ∧ evL t' x = some v' ∧ DR ρ v v' := by
  unfold evK at h
  split at h
  · rename_i v hv
    obtain ⟨v', h1, h2⟩ := evS_ok ht hv
    exact ⟨v, v', h, h1, h2⟩
  · exact h.elim
theorem evsK_ok (ht : TSD ρ t t') : ∀ {xs : List Operand} {K : List SV → Prop}, evsK t xs K → ∃ l l', K l ∧ evAllL t' xs = some l' ∧ LDR ρ l l'
  | [], K, h => ⟨[], [], h, rfl, .nil ρ⟩
  | x :: r, K, h => by
    simp only [evsK] at h
    obtain ⟨v, v', h1, h2, h3⟩ := evK_ok ht h
    obtain ⟨l, l', h4, h5, h6⟩ := evsK_ok ht h1
    exact ⟨v :: l, v' :: l', h4, by simp [evAllL, h2, h5], .cons h3 h6⟩
def PDR (ρ : Nm) (l : List (Nat × SV)) (l' : List (Nat × Value)) : Prop := l.length = l'.length ∧ ∀ (j : Nat) p p', l[j]? = some p → l'[j]? = some p' → p.1 = p'.1 ∧ DR ρ p.2 p'.2
theorem evPK_ok (ht : TSD ρ t t') : ∀ {xs : List (Nat × Operand)} {K : List (Nat × SV) → Prop}, evPK t xs K → ∃ l l', K l ∧ evParts t' xs = some l' ∧ PDR ρ l l'
  | [], K, h => ⟨[], [], h, rfl, rfl, fun j p p' h => by simp at h⟩
  | (i, x) :: r, K, h => by
    simp only [evPK] at h
    obtain ⟨v, v', h1, h2, h3⟩ := evK_ok ht h
    obtain ⟨l, l', h4, h5, h6, h7⟩ := evPK_ok ht h1
    refine ⟨(i, v) :: l, (i, v') :: l', h4, by simp [evParts, h2, h5], by simp [h6], fun j p p' e1 e2 => ?_⟩
    cases j with
    | zero => simp at e1 e2; subst e1; subst e2; exact ⟨rfl, h3⟩
    | succ j => exact h7 j p p' (by simpa using e1) (by simpa using e2)
theorem optK_ok (ht : TSD ρ t t') {x : Option Operand} {K : Option Int → Prop} (h : optK t x K) : ∃ l, K l ∧ optInt t' x = some l := by
  cases x with
  | none => exact ⟨none, h, rfl⟩
  | some x =>
    simp only [optK] at h
    obtain ⟨v, v', h1, h2, h3⟩ := evK_ok ht h
    cases h3 <;> first | exact h1.elim | skip
    rename_i k n
    exact ⟨some n, h1, by simp [optInt, h2]⟩
theorem cells_dr {v : SV} {v' : Value} (h : DR ρ v v') : LDR ρ (cellsS v) (cellsL v') := by
  cases h <;> first | exact .cons (by constructor <;> assumption) (.nil ρ) | skip
  case agg xs ys hl h => exact ⟨hl, h⟩
  case arrV e l => exact map_toV (flat_all l) ρ
theorem spliceS_ldr {xs us : List SV} {ys vs : List Value} (h : LDR ρ xs ys) (k : LDR ρ us vs) (o : Nat) : LDR ρ (spliceS xs o us) (splice ys o vs) := h.splice k o
theorem fillS_ok {place place' : Nat → Option (Nat × Nat)} (hp : ∀ i, place i = place' i) : ∀ {l : List (Nat × SV)} {l' : List (Nat × Value)} {cs r : List SV} {cs' : List Value}, LDR ρ cs cs' → PDR ρ l l' → fillS place cs l = some r → ∃ r', fillL place' cs' l' = some r' ∧ LDR ρ r r'
  | [], l', cs, r, cs', hc, hl, h => by
    have : l' = [] := List.eq_nil_of_length_eq_zero (by have := hl.1; simpa using this.symm)
    subst this
    simp only [fillS] at h; obtain rfl := Option.some.inj h
    exact ⟨cs', rfl, hc⟩
  | (i, v) :: l, [], cs, r, cs', hc, hl, h => by have := hl.1; simp at this
  | (i, v) :: l, (i', v') :: l', cs, r, cs', hc, hl, h => by
    obtain ⟨e1, e2⟩ := hl.2 0 (i, v) (i', v') rfl rfl
    simp only at e1 e2; subst e1
    simp only [fillS] at h
    simp only [fillL]
    rw [← hp]
    split at h
    · simp at h
    · rename_i off size hpl
      have hcl := (cells_dr e2).1
      split at h
      · rename_i hcond
        simp only [Bool.and_eq_true, Nat.beq_eq, Nat.ble_eq] at hcond
        rw [hpl]
        simp only
        rw [← hcl, ← hc.1, if_neg (by omega)]
        exact fillS_ok hp (spliceS_ldr hc (cells_dr e2) off) ⟨by have := hl.1; simpa using this, fun j p p' a b => hl.2 (j + 1) p p' (by simpa using a) (by simpa using b)⟩ h
      · simp at h
theorem outS_ok {d : TyD} {cs : List SV} {cs' : List Value} {K : SV → Prop} (h : outS d cs K) (hr : LDR ρ cs cs') : ∃ v v', K v ∧ (if aggD d.und = true then some (Value.agg ⟨cs'⟩) else cs'[0]?) = some v' ∧ DR ρ v v' := by
  unfold outS at h
  rw [forceL_iff] at h
  split at h
  · rename_i ha
    exact ⟨_, _, h, by rw [if_pos ha], .agg _ _ hr.1 hr.2⟩
  · rename_i ha
    split at h
    · rename_i v
      obtain ⟨v', ys, rfl, h1, h2⟩ := hr.inv_cons
      exact ⟨v, v', h, by rw [if_neg (by simp [ha])]; rfl, h1⟩
    · exact h.elim
/-- Where an element lies in a row. -/
theorem flat_at {e : ET} : ∀ {l : List e.T} {i : Nat} {a : e.T}, l[i]? = some a → ∃ X Y, X.length = i * e.w ∧ l.flatMap e.enc = X ++ e.enc a ++ Y ∧ ∀ a', (l.set i a').flatMap e.enc = X ++ e.enc a' ++ Y
  | [], i, a, h => by simp at h
  | b :: l, 0, a, h => by
    simp at h; subst h
    exact ⟨[], l.flatMap e.enc, by simp, by simp, fun a' => by simp⟩
  | b :: l, i + 1, a, h => by
    obtain ⟨X, Y, h1, h2, h3⟩ := flat_at (l := l) (i := i) (a := a) (by simpa using h)
    exact ⟨e.enc b ++ X, Y, by simp [h1, e.enc_len, Nat.add_mul]; omega, by simp [h2], fun a' => by simp [h3]⟩
theorem seg_at {X ea Y : List SV} {p o n : Nat} (hX : X.length = p) (hn : o + n ≤ ea.length) : ((X ++ ea ++ Y).drop (p + o)).take n = seg ea o n := by
  subst hX
  unfold seg
  rw [List.append_assoc, ← List.drop_drop, List.drop_left, List.drop_append_of_le_length (by omega), List.take_append_of_le_length (by simp; omega)]
theorem splice_at {X ea Y cs : List SV} {p o : Nat} (hX : X.length = p) (hn : o + cs.length ≤ ea.length) : spliceS (X ++ ea ++ Y) (p + o) cs = X ++ spliceS ea o cs ++ Y := by
  subst hX
  unfold spliceS
  rw [List.append_assoc X ea Y, List.take_append, List.drop_append]
  rw [List.take_of_length_le (by omega), List.drop_eq_nil_of_le (by omega)]
  rw [show X.length + o - X.length = o by omega, show X.length + o + cs.length - X.length = o + cs.length by omega]
  rw [List.take_append_of_le_length (by omega), List.drop_append_of_le_length (by omega)]
  simp

theorem flat_drop {e : ET} : ∀ (l : List e.T) (s : Nat), (l.flatMap e.enc).drop (s * e.w) = (l.drop s).flatMap e.enc
  | [], s => by simp
  | a :: l, 0 => by simp
  | a :: l, s + 1 => by
    rw [List.flatMap_cons, List.drop_append, List.drop_eq_nil_of_le (by rw [e.enc_len, Nat.add_mul]; omega), List.nil_append, e.enc_len, show (s + 1) * e.w - e.w = s * e.w by rw [Nat.add_mul]; omega]
    simpa using flat_drop l s
theorem flat_take {e : ET} : ∀ (l : List e.T) (m : Nat), (l.flatMap e.enc).take (m * e.w) = (l.take m).flatMap e.enc
  | [], m => by simp
  | a :: l, 0 => by simp
  | a :: l, m + 1 => by
    rw [List.flatMap_cons, List.take_append, List.take_of_length_le (by rw [e.enc_len, Nat.add_mul]; omega), e.enc_len, show (m + 1) * e.w - e.w = m * e.w by rw [Nat.add_mul]; omega, flat_take l m]
    simp
theorem flat_len {e : ET} : ∀ (l : List e.T), (l.flatMap e.enc).length = l.length * e.w
  | [] => by simp
  | a :: l => by rw [List.flatMap_cons, List.length_append, e.enc_len, flat_len l, List.length_cons, Nat.add_mul]; omega
theorem LDR.fun2 {xs : List SV} {as bs : List Value} (h : LDR ρ xs as) (k : LDR ρ xs bs) : as = bs :=
  List.ext_getElem (by rw [← h.1, ← k.1]) fun i a b => (h.2 i (xs[i]'(by rw [h.1]; exact a)) _ (by simp) (by simp)).fun (k.2 i (xs[i]'(by rw [h.1]; exact a)) _ (by simp) (by simp))
theorem Den.get (hD : Den ρ S H) {b id w : Nat} {x : SB} (hb : getT S b = some x) (hg : isGone x = false) (hi : ρ b = some (id, w)) : ∃ k, getB H id = some k ∧ BR ρ x w k := by
  rw [getT_eq] at hb
  obtain ⟨id', w', k, h1, h2, h3⟩ := hD.blk b x hb hg
  rw [hi] at h1; obtain ⟨rfl, rfl⟩ := Prod.mk.inj (Option.some.inj h1)
  exact ⟨k, h2, h3⟩
theorem loadS_ok {P : Program} (hD : Den ρ S H) {d : TyD} {ty : Nat} (hd : tyOf P ty = some d) {v : SV} {v' : Value} (hr : DR ρ v v') {K : SV → Prop} (h : loadS d S v K) : ∃ u u', K u ∧ loadVarA (tyOf P) ty v' H = some u' ∧ DR ρ u u' := by
  have fin : ∀ {id off : Nat} {k : Blk} {cs : List SV}, getB H id = some k → off + cnt d ≤ k.cells.length → LDR ρ cs ((k.cells.drop off).take (cnt d)) → outS d cs K → ∃ u u', K u ∧ loadVarA (tyOf P) ty (.pointer (some ⟨id, off, none⟩)) H = some u' ∧ DR ρ u u' := by
    intro id off k cs h1 h2 h3 h4
    obtain ⟨u, u', g1, g2, g3⟩ := outS_ok h4 h3
    refine ⟨u, u', g1, ?_, g3⟩
    have hcnt : (if aggD d.und = true then d.size else 1) = cnt d := by unfold cnt; cases aggD d.und <;> rfl
    unfold loadVarA
    simp only [hd, hcnt, loadA, h1, if_pos h2]
    exact g2
  unfold loadS at h
  split at h
  · rename_i b i o
    cases hr with | ptr _ _ _ id w hb =>
    split at h
    · rename_i e l sz wr hS
      split at h
      · rename_i hle
        obtain ⟨a, ha, h⟩ := atL_iff.1 h
        obtain ⟨k, hk, rfl, _, _, _, hc⟩ := hD.get hS rfl hb
        obtain ⟨X, Y, e1, e2, _⟩ := flat_at ha
        have hle' : o + cnt d ≤ (e.enc a).length := by rw [e.enc_len]; exact Nat.le_of_ble_eq_true hle
        rw [e2] at hc
        refine fin hk ?_ ?_ h
        · rw [← hc.1]; simp; omega
        · have := (hc.drop (i * e.w + o)).take (cnt d)
          rw [seg_at e1 hle'] at this
          exact this
      · split at h
        · rename_i len el hu
          split at h
          · split at h
            · rename_i hsz
              have hsz : len * e.w = d.size := by simpa using hsz
              obtain ⟨⟨hv⟩, h⟩ := h
              obtain ⟨k, hk, rfl, _, _, _, hc⟩ := hD.get hS rfl hb
              have hag : aggD d.und = true := by rw [hu]; rfl
              have hlen : i * e.w + d.size ≤ k.cells.length := by
                rw [← hc.1, flat_len, ← hsz, ← Nat.add_mul]; exact Nat.mul_le_mul_right _ hv
              have hl := (hc.drop (i * e.w)).take d.size
              rw [← hsz, flat_drop, flat_take] at hl
              have e2 : (k.cells.drop (i * e.w)).take (len * e.w) = ((seg l i len).flatMap e.enc).map toV := LDR.fun2 hl (map_toV (flat_all _) ρ)
              refine ⟨_, .agg ⟨((seg l i len).flatMap e.enc).map toV⟩, h, ?_, .arrV _ _⟩
              simp only [loadVarA, hd, hag, if_true, Nat.add_zero, loadA, hk]
              rw [if_pos hlen, ← hsz]
              simp only [e2]
            · exact h.elim
          · exact h.elim
        · exact h.elim
    · rename_i cs wr fl hS
      split at h
      · split at h
        · rename_i hle
          obtain ⟨k, hk, hc, _⟩ := hD.get hS rfl hb
          refine fin hk ?_ ?_ h
          · rw [← hc.1]; have := Nat.le_of_ble_eq_true hle; omega
          · have := (hc.drop o).take (cnt d)
            simpa [seg] using this
        · exact h.elim
      · exact h.elim
    · exact h.elim
  · exact h.elim

/-! ### steps of the state -/
def Dom (ρ : Nm) (S : List SB) (H : Heap) : Prop := ∀ b id w, ρ b = some (id, w) → b < S.length ∧ id < H.length
structure Step (ρ : Nm) (S : List SB) (H : Heap) (ρ' : Nm) (S' : List SB) (H' : Heap) : Prop where
  le : NLe ρ ρ'
  den : Den ρ' S' H'
  dom : Dom ρ' S' H'
  fresh : ∀ b id w, ρ' b = some (id, w) → ρ b = some (id, w) ∨ (S.length ≤ b ∧ H.length ≤ id)
  hl : H.length ≤ H'.length
  sl : S.length ≤ S'.length
  keep : ∀ id, id < H.length → (∀ b w, ρ b ≠ some (id, w)) → H'[id]? = H[id]?
theorem Step.refl (hD : Den ρ S H) (hd : Dom ρ S H) : Step ρ S H ρ S H := ⟨.refl _, hD, hd, fun _ _ _ h => .inl h, Nat.le_refl _, Nat.le_refl _, fun _ _ _ => rfl⟩
theorem Step.trans {ρ1 ρ2 : Nm} {S1 S2 : List SB} {H1 H2 : Heap} (h : Step ρ S H ρ1 S1 H1) (k : Step ρ1 S1 H1 ρ2 S2 H2) : Step ρ S H ρ2 S2 H2 where
  le := h.le.trans k.le
  den := k.den
  dom := k.dom
  fresh := fun b id w hb => by
    rcases k.fresh b id w hb with h1 | ⟨h1, h2⟩
    · exact h.fresh b id w h1
    · exact .inr ⟨by have := h.sl; omega, by have := h.hl; omega⟩
  hl := Nat.le_trans h.hl k.hl
  sl := Nat.le_trans h.sl k.sl
  keep := fun id hi hn => by
    rw [k.keep id (by have := h.hl; omega) fun b w hb => ?_, h.keep id hi hn]
    rcases h.fresh b id w hb with h1 | ⟨_, h2⟩
    · exact hn b w h1
    · omega
theorem Den.put (hD : Den ρ S H) {b id w : Nat} {x : SB} {y : Option Blk} (hi : ρ b = some (id, w)) (hid : id < H.length) (hx : isGone x = false → ∃ k, y = some k ∧ BR ρ x w k) : Den ρ (S.set b x) (H.set id y) := by
  refine ⟨fun b' x' hb' hg => ?_, hD.inj⟩
  rw [List.getElem?_set] at hb'
  split at hb'
  · rename_i e; subst e
    split at hb'
    · obtain rfl := Option.some.inj hb'
      obtain ⟨k, rfl, hk⟩ := hx hg
      exact ⟨id, w, k, hi, by rw [getB_eq]; simp [hid], hk⟩
    · simp at hb'
  · rename_i e
    obtain ⟨id', w', k, h1, h2, h3⟩ := hD.blk b' x' hb' hg
    refine ⟨id', w', k, h1, ?_, h3⟩
    rw [getB_eq] at h2 ⊢
    rw [List.getElem?_set, if_neg (fun q => e ?_)]
    · exact h2
    · subst q; exact hD.inj b b' id w w' hi h1
theorem Step.put (hD : Den ρ S H) (hd : Dom ρ S H) {b id w : Nat} {x : SB} {y : Option Blk} (hi : ρ b = some (id, w)) (hx : isGone x = false → ∃ k, y = some k ∧ BR ρ x w k) : Step ρ S H ρ (S.set b x) (H.set id y) where
  le := .refl _
  den := hD.put hi (hd b id w hi).2 hx
  dom := fun b id w h => by simpa using hd b id w h
  fresh := fun _ _ _ h => .inl h
  hl := by simp
  sl := by simp
  keep := fun j hj hn => by
    rw [List.getElem?_set, if_neg]
    intro e; subst e; exact hn b w hi
def updN (ρ : Nm) (n : Nat) (p : Nat × Nat) : Nm := fun b => if b = n then some p else ρ b
theorem updN_le (hd : Dom ρ S H) (p : Nat × Nat) : NLe ρ (updN ρ S.length p) := fun b q h => by
  have := (hd b q.1 q.2 (by simpa using h)).1
  simp [updN, show b ≠ S.length by omega, h]
theorem Step.push (hD : Den ρ S H) (hd : Dom ρ S H) {x : SB} {k : Blk} {w : Nat} (hx : BR (updN ρ S.length (H.length, w)) x w k) : Step ρ S H (updN ρ S.length (H.length, w)) (S ++ [x]) (H ++ [some k]) where
  le := updN_le hd _
  den := by
    refine ⟨fun b x' hb hg => ?_, fun b b' id w1 w2 h1 h2 => ?_⟩
    · by_cases hl : b < S.length
      · rw [List.getElem?_append_left hl] at hb
        obtain ⟨id, w', k', h1, h2, h3⟩ := hD.blk b x' hb hg
        have hid := (hd b id w' h1).2
        exact ⟨id, w', k', updN_le hd _ _ _ h1, by rw [getB_eq] at h2 ⊢; rw [List.getElem?_append_left hid]; exact h2, h3.mono (updN_le hd _)⟩
      · have hb2 : b = S.length := by
          have := (List.getElem?_eq_some_iff.1 hb).1
          simp at this; omega
        subst hb2
        simp at hb; subst hb
        exact ⟨H.length, w, k, by simp [updN], by rw [getB_eq]; simp, hx⟩
    · simp only [updN] at h1 h2
      split at h1 <;> split at h2
      · omega
      · obtain ⟨rfl, rfl⟩ := Prod.mk.inj (Option.some.inj h1)
        have := (hd b' _ _ h2).2; omega
      · obtain ⟨rfl, rfl⟩ := Prod.mk.inj (Option.some.inj h2)
        have := (hd b _ _ h1).2; omega
      · exact hD.inj b b' id w1 w2 h1 h2
  dom := fun b id w' h => by
    simp only [updN] at h
    split at h
    · obtain ⟨rfl, rfl⟩ := Prod.mk.inj (Option.some.inj h); simp; omega
    · have := hd b id w' h; simp; omega
  fresh := fun b id w' h => by
    simp only [updN] at h
    split at h
    · obtain ⟨rfl, rfl⟩ := Prod.mk.inj (Option.some.inj h); exact .inr ⟨by omega, Nat.le_refl _⟩
    · exact .inl h
  hl := by simp
  sl := by simp
  keep := fun id hi _ => by rw [List.getElem?_append_left hi]
theorem updN_self (ρ : Nm) (n : Nat) (p : Nat × Nat) : updN ρ n p n = some p := by simp [updN]
end
end Go.Proofs.Ytbmejhabgoimeaa.Eng
set_option linter.unusedVariables false
set_option linter.unusedSimpArgs false
namespace Go.Proofs.Ytbmejhabgoimeaa.Eng
open Go Go.RowKit

/-- The table of types tells the program's own. -/
def TabOk (P : Program) (T : Ty) (Q : Nat → Bool) : Prop := (∀ t d, T t = some d → tyOf P t = some d) ∧ ∀ t, Q t = true → eqOf P t = true
section
variable {P : Program} {T : Ty} {Q : Nat → Bool} {ρ ρ' : Nm} {S S' : List SB} {H H' : Heap} {t : List SV} {t' : List Value} {B k : Nat} {o : Oper}

/-- The raw operation does what is told. -/
def Does (P : Program) (B : Nat) (t' : List Value) (H : Heap) (o : Oper) (ρ : Nm) (S : List SB) (K : SV → List SB → Prop) : Prop :=
  ∃ v v' S' H' ρ', K v S' ∧ opA (tyOf P) (eqOf P) B t' H o = some (v', H') ∧ DR ρ' v v' ∧ Step ρ S H ρ' S' H'
theorem does_same {K : SV → List SB → Prop} {v : SV} {v' : Value} (hD : Den ρ S H) (hd : Dom ρ S H) (hK : K v S) (ho : opA (tyOf P) (eqOf P) B t' H o = some (v', H)) (hr : DR ρ v v') : Does P B t' H o ρ S K :=
  ⟨v, v', S, H, ρ, hK, ho, hr, .refl hD hd⟩
theorem undef_dr (ρ : Nm) : DR ρ (.tup []) undef := .tup [] [] rfl fun i v v' h => by simp at h

theorem intS_ok {op : BinOp} {k : IntKind} {a b : Int} {K : SV → Prop} (h : intS op k a b K) : ∃ s v, K s ∧ intA op k a b = some v ∧ DR ρ s v := by
  cases op <;> simp only [intS] at h <;> first | exact h.elim | skip
  all_goals first
    | exact ⟨_, _, h, rfl, .int _ _⟩
    | exact ⟨_, _, h, rfl, .bool _⟩
    | exact ⟨_, _, h.2, by simp only [intA]; rw [if_neg h.1.h], .int _ _⟩
theorem strS_ok {op : BinOp} {a b : List UInt8} {K : SV → Prop} (h : strS op a b K) : ∃ s v, K s ∧ strA op ⟨⟨a⟩⟩ ⟨⟨b⟩⟩ = some v ∧ DR ρ s v := by
  have hb : ∀ a b : List UInt8, (ByteArray.mk ⟨a⟩ = ByteArray.mk ⟨b⟩) = (a = b) := fun a b => by simp
  cases op <;> simp only [strS] at h <;> first | exact h.elim | skip
  · refine ⟨_, .string (⟨⟨a⟩⟩ ++ ⟨⟨b⟩⟩), h.2, ?_, ?_⟩
    · simp only [strA]
      have : (ByteArray.mk ⟨a⟩).size + (ByteArray.mk ⟨b⟩).size ≤ 9223372036854775807 := h.1.h
      rw [if_pos this]
    · have : (ByteArray.mk ⟨a⟩ ++ ByteArray.mk ⟨b⟩) = ⟨⟨a ++ b⟩⟩ := by
        apply ByteArray.ext
        simp [ByteArray.data_append]
      rw [this]; exact .str _
  all_goals first
    | exact ⟨_, .bool (decide (a = b)), h, by simp [strA], .bool _⟩
    | exact ⟨_, .bool (decide (a ≠ b)), h, by simp [strA], .bool _⟩
    | exact ⟨_, .bool (Op.bytesLess a b), h, by simp [strA, ByteArray.toList_eq], .bool _⟩
theorem partS_ok (hT : TabOk P T Q) {ty off : Nat} {cs : List SV} {cs' : List Value} {v : SV} (hc : LDR ρ cs cs') (h : partS T ty cs off = some v) : ∃ v', partL (tyOf P) ty cs' off = some v' ∧ DR ρ v v' := by
  unfold partS at h
  split at h
  · rename_i d hd
    have hd' := hT.1 _ _ hd
    unfold partL
    rw [hd']
    simp only
    split at h
    · rename_i ha
      rw [if_pos ha]
      split at h
      · rename_i hle
        obtain rfl := Option.some.inj h
        have hle := Nat.le_of_ble_eq_true hle
        rw [if_pos (by rw [← hc.1]; exact hle)]
        have := (hc.drop off).take d.size
        exact ⟨_, rfl, .agg _ _ this.1 this.2⟩
      · simp at h
    · rename_i ha
      rw [if_neg (by simp [ha])]
      rw [getT_eq] at h
      exact hc.get h
  · simp at h
theorem eqFS_ok (hT : TabOk P T Q) {e : Nat → SV → SV → Option Bool} {e' : Nat → Value → Value → Option Bool} (he : ∀ ty x y x' y' r, DR ρ x x' → DR ρ y y' → e ty x y = some r → e' ty x' y' = some r) :
    ∀ {fs : List Field} {xs ys : List SV} {xs' ys' : List Value} {r : Bool}, LDR ρ xs xs' → LDR ρ ys ys' → eqFS T e fs xs ys = some r → eqFieldsA (tyOf P) e' fs xs' ys' = some r
  | [], xs, ys, xs', ys', r, _, _, h => by simpa [eqFS, eqFieldsA] using h
  | f :: fs, xs, ys, xs', ys', r, hx, hy, h => by
    simp only [eqFS] at h
    split at h
    · simp at h
    · rename_i hn
      split at h
      · rename_i a ha
        split at h
        · rename_i b hb
          split at h
          · rename_i p hp
            obtain ⟨a', ha', hra⟩ := partS_ok hT hx ha
            obtain ⟨b', hb', hrb⟩ := partS_ok hT hy hb
            have hp' := he _ _ _ _ _ _ hra hrb hp
            simp only [eqFieldsA]
            rw [if_neg (by simpa using hn), ha', hb']
            simp only [hp']
            split at h
            · simpa [eqFieldsA] using h
            · split at h
              · rename_i q hq
                rw [eqFS_ok hT he hx hy hq]
                exact h
              · simp at h
          · simp at h
        · simp at h
      · simp at h
theorem eqS_ok (hT : TabOk P T Q) : ∀ {n ty : Nat} {x y : SV} {x' y' : Value} {r : Bool}, DR ρ x x' → DR ρ y y' → eqS T Q n ty x y = some r → eqA (tyOf P) (eqOf P) n ty x' y' = some r
  | 0, _, _, _, _, _, _, _, _, h => by simp [eqS] at h
  | n + 1, ty, x, y, x', y', r, hx, hy, h => by
    simp only [eqS] at h
    split at h
    · simp at h
    · rename_i d hd
      have hd' := hT.1 _ _ hd
      simp only [eqA, hd']
      split at h
      · rename_i hu
        split at h
        · cases hx; cases hy; simp only [hu]; exact h
        · simp at h
      · rename_i k0 hu
        split at h
        · cases hx; cases hy; simp only [hu]; exact h
        · simp at h
      · rename_i hu
        split at h
        · cases hx; cases hy; simp only [hu]; simpa using h
        · simp at h
      · rename_i fs hu
        split at h
        · rename_i xs ys
          cases hx with | agg _ xs' hl1 h1 =>
          cases hy with | agg _ ys' hl2 h2 =>
          simp only [hu]
          split at h
          · rename_i hq
            rw [if_pos (hT.2 _ hq)]
            exact eqFS_ok (e := eqS T Q n) hT (fun ty x y x' y' r hx hy h => eqS_ok hT hx hy h) ⟨hl1, h1⟩ ⟨hl2, h2⟩ h
          · simp at h
        · simp at h
      · simp at h
theorem isBoolD_ok (hT : TabOk P T Q) {ty : Nat} (h : isBoolD (T ty) = true) : ∃ d, tyOf P ty = some d ∧ d.und = .bool := by
  unfold isBoolD at h
  split at h
  · rename_i d hd
    refine ⟨d, hT.1 _ _ hd, ?_⟩
    split at h
    · assumption
    · simp at h
  · simp at h
theorem binS_ok (hT : TabOk P T Q) {op : BinOp} {ty : Nat} {x y : SV} {x' y' : Value} {K : SV → Prop} (hx : DR ρ x x') (hy : DR ρ y y') (h : binS T Q op ty x y K) : ∃ s v, K s ∧ binA (tyOf P) (eqOf P) op ty x' y' = some v ∧ DR ρ s v := by
  unfold binS at h
  split at h
  · rename_i k a k' b
    cases hx; cases hy
    split at h
    · exact ⟨_, _, h.2, by simp only [binA, shiftA]; rw [if_neg (by have := h.1.h; omega)], .int _ _⟩
    · exact ⟨_, _, h.2, by simp only [binA, shiftA]; rw [if_neg (by have := h.1.h; omega)], .int _ _⟩
    · rename_i n1 n2
      split at h
      · rename_i hk
        have hk : k = k' := by simpa using hk
        subst hk
        obtain ⟨s, v, h1, h2, h3⟩ := intS_ok (ρ := ρ) h
        refine ⟨s, v, h1, ?_, h3⟩
        rw [← h2]
        cases op <;> first | (exact absurd rfl n1) | (exact absurd rfl n2) | simp [binA]
      · exact h.elim
  · rename_i a b
    cases hx; cases hy
    obtain ⟨s, v, h1, h2, h3⟩ := strS_ok (ρ := ρ) h
    refine ⟨s, v, h1, ?_, h3⟩
    rw [← h2]
    cases op <;> simp [binA]
  · rename_i a b
    cases hx; cases hy
    split at h
    · rename_i hb
      obtain ⟨d, hd, hu⟩ := isBoolD_ok hT hb
      split at h
      · exact ⟨_, _, h, by simp only [binA, hd, hu], .bool _⟩
      · exact ⟨_, _, h, by simp only [binA, hd, hu], .bool _⟩
      · exact h.elim
    · exact h.elim
  · rename_i xs ys
    have e1 : ∃ xs', x' = .agg xs' := by cases hx; exact ⟨_, rfl⟩
    have e2 : ∃ ys', y' = .agg ys' := by cases hy; exact ⟨_, rfl⟩
    obtain ⟨xs', rfl⟩ := e1
    obtain ⟨ys', rfl⟩ := e2
    split at h
    · split at h
      · rename_i r hr
        exact ⟨_, _, h, by simp only [binA, eqS_ok hT hx hy hr]; rfl, .bool _⟩
      · exact h.elim
    · split at h
      · rename_i r hr
        exact ⟨_, _, h, by simp only [binA, eqS_ok hT hx hy hr]; rfl, .bool _⟩
      · exact h.elim
    · exact h.elim
  · exact h.elim
theorem convS_ok (hT : TabOk P T Q) {s d : Nat} {x : SV} {x' : Value} {K : SV → Prop} (hx : DR ρ x x') (h : convS T s d x K) : ∃ u v, K u ∧ convA (tyOf P) s d x' = some v ∧ DR ρ u v := by
  unfold convS at h
  split at h
  · exact h.elim
  · rename_i ds hs
    split at h
    · exact h.elim
    · rename_i dd hd
      have hs' := hT.1 _ _ hs
      have hd' := hT.1 _ _ hd
      split at h
      · cases hx
        split at h
        · rename_i hu; exact ⟨_, _, h, by simp only [convA, hs', hd', hu], .int _ _⟩
        · exact h.elim
      · cases hx
        split at h
        · rename_i hu; exact ⟨_, _, h, by simp only [convA, hs', hd', hu], .str _⟩
        · exact h.elim
      · exact h.elim
theorem decN_ok {e : ET} : ∀ {n : Nat} {cs : List SV} {l : List e.T}, decN e n cs = some l → l.flatMap e.enc = cs ∧ l.length = n
  | 0, [], l, h => by simp [decN] at h; subst h; exact ⟨rfl, rfl⟩
  | 0, _ :: _, l, h => by simp [decN] at h
  | n + 1, cs, l, h => by
    simp only [decN] at h
    split at h
    · rename_i x r h1
      split at h
      · rename_i l' h2
        obtain rfl := Option.some.inj h
        obtain ⟨g1, g2⟩ := decN_ok h2
        rw [e.dec_ok _ _ _ h1]
        exact ⟨by simp [g1], by simp [g2]⟩
      · simp at h
    · simp at h
theorem ptr0 {b id w : Nat} (h : ρ b = some (id, w)) : DR ρ (.ptr b 0 0) (.pointer (some ⟨id, 0, none⟩)) := by
  have := DR.ptr (ρ := ρ) b 0 0 id w h
  simpa using this
theorem sl0 {b id w n : Nat} (h : ρ b = some (id, w)) : DR ρ (.sl b 0 n 0) (.slice (some ⟨id, 0, none⟩) n (n + 1)) := by
  have := DR.sl (ρ := ρ) b 0 n 0 id w h
  simpa using this
/-- A new row. -/
theorem push_ok (hD : Den ρ S H) (hd : Dom ρ S H) {x : SB} {k : Blk} {w : Nat} {K : Nat → List SB → Prop} (hx : ∀ ρ', NLe ρ ρ' → BR ρ' x w k) (h : pushK x S nums K) :
    ∃ ρ' S', K S.length S' ∧ ρ' S.length = some (H.length, w) ∧ Step ρ S H ρ' S' (H ++ [some k]) :=
  ⟨_, _, pushK_ok h, updN_self _ _ _, Step.push hD hd (hx _ (updN_le hd _))⟩
theorem newB_ok {ty : Nat} {d : TyD} {cs : List SV} {cs' : List Value} {fl : Bool} {x : SB} (hc : LDR ρ cs cs') (h : newB T ty d cs fl = some x) : ∃ w, isGone x = false ∧ ∀ ρ', NLe ρ ρ' → BR ρ' x w ⟨cs', 0, true, fl⟩ := by
  unfold newB at h
  split at h
  · obtain rfl := Option.some.inj h
    exact ⟨0, rfl, fun ρ' hm => ⟨hc.mono hm, rfl, fun _ => rfl, rfl⟩⟩
  · have arr : ∀ (e : ET) (l : List e.T), l.flatMap e.enc = cs → x = .arr e l 0 true → ∃ w, isGone x = false ∧ ∀ ρ', NLe ρ ρ' → BR ρ' x w ⟨cs', 0, true, true⟩ := fun e l hl hx => by
      subst hx; exact ⟨e.w, rfl, fun ρ' hm => ⟨rfl, rfl, fun _ => rfl, rfl, by rw [hl]; exact hc.mono hm⟩⟩
    have box : x = .box cs true true → ∃ w, isGone x = false ∧ ∀ ρ', NLe ρ ρ' → BR ρ' x w ⟨cs', 0, true, true⟩ := fun hx => by
      subst hx; exact ⟨0, rfl, fun ρ' hm => ⟨hc.mono hm, rfl, fun _ => rfl, rfl⟩⟩
    split at h
    · split at h
      · split at h
        · split at h
          · split at h
            · rename_i l hl; exact arr _ l (decN_ok hl).1 (Option.some.inj h).symm
            · simp at h
          · simp at h
        · simp at h
      · simp at h
    · split at h
      · split at h
        · rename_i y hy; exact arr _ [y] (by rw [ET.dec_ok _ _ _ _ hy]; simp) (Option.some.inj h).symm
        · exact box (Option.some.inj h).symm
      · exact box (Option.some.inj h).symm
theorem newS_ok (hT : TabOk P T Q) (hD : Den ρ S H) (hd : Dom ρ S H) {ty : Nat} {d : TyD} {cs : List SV} {cs' : List Value} {fl fl' : Bool} {K : Nat → List SB → Prop} (hc : LDR ρ cs cs') (hf : fl' = fl) (h : newS T S ty d cs fl K) :
    ∃ ρ' S' w, K S.length S' ∧ ρ' S.length = some (H.length, w) ∧ Step ρ S H ρ' S' (H ++ [some ⟨cs', 0, true, fl'⟩]) := by
  unfold newS at h
  split at h
  · rename_i x hx
    obtain ⟨w, _, hb⟩ := newB_ok hc hx
    obtain ⟨ρ', S', h1, h2, h3⟩ := push_ok (w := w) (k := ⟨cs', 0, true, fl'⟩) hD hd (fun ρ' hm => by rw [hf]; exact hb ρ' hm) h
    exact ⟨ρ', S', w, h1, h2, h3⟩
  · exact h.elim
theorem elemK_ok (hT : TabOk P T Q) {ty : Nat} {K : (e : ET) → e.T → TyD → Prop} (h : elemK T ty K) : ∃ (e : ET) (x : e.T) (de : TyD) (el : Nat), K e x de ∧ elemT (tyOf P) ty = some (el, de) ∧ de.size = e.w ∧ (∀ ρ, LDR ρ (e.enc x) de.zero) ∧ de.fl = true := by
  unfold elemK at h
  split at h
  · rename_i d hd
    split at h
    · rename_i el hu
      split at h
      · rename_i de hde
        split at h
        · rename_i e he
          split at h
          · rename_i hw
            split at h
            · rename_i hfl
              split at h
              · rename_i z hz
                split at h
                · rename_i x hx
                  refine ⟨e, x, de, el, h, by simp only [elemT, hT.1 _ _ hd, hu, hT.1 _ _ hde]; rfl, by simpa using hw, fun ρ => ?_, hfl⟩
                  have := e.dec_ok _ _ _ hx
                  rw [List.append_nil] at this
                  rw [← this]
                  exact (ofVs_ok hz).1
                · exact h.elim
              · exact h.elim
            · exact h.elim
          · exact h.elim
        · exact h.elim
      · exact h.elim
    · exact h.elim
  · exact h.elim
theorem zeros_ldr {z : List SV} {z' : List Value} (h : LDR ρ z z') : ∀ n, LDR ρ (repL z n) (zerosL z' n)
  | 0 => .nil ρ
  | n + 1 => h.append (zeros_ldr h n)
theorem rep_flat {e : ET} (x : e.T) : ∀ n, (List.replicate n x).flatMap e.enc = repL (e.enc x) n
  | 0 => rfl
  | n + 1 => by rw [List.replicate_succ, List.flatMap_cons, rep_flat x n]; rfl
theorem rowS_ok (hD : Den ρ S H) {e : ET} {v : SV} {v' : Value} {m : Nat} (hl : lenS v = some m) (hr : DR ρ v v') {K : List e.T → Prop} (h : rowS S e v K) :
    ∃ (l : List e.T) (l' : List Value) (xa : Option Addr) (xc : Nat), K l ∧ v' = .slice xa m xc ∧ rowA H e.w (.slice xa m xc) m = some l' ∧ LDR ρ (l.flatMap e.enc) l' ∧ l.length = m := by
  unfold rowS at h
  split at h
  · cases hr
    simp only [lenS, Option.some.injEq] at hl; subst hl
    exact ⟨[], [], none, 0, h, rfl, by simp [rowA], .nil ρ, rfl⟩
  · rename_i b s n x
    simp only [lenS, Option.some.injEq] at hl; subst hl
    cases hr with | sl _ _ _ _ id w hb =>
    split at h
    · rename_i e' l sz wr hS
      split at h
      · rename_i he
        subst he
        obtain ⟨k, hk, rfl, _, _, _, hcells⟩ := hD.get hS rfl hb
        obtain ⟨hlen, h⟩ := h
        have hlen := hlen.h
        simp only at h hlen
        refine ⟨seg l s n, (k.cells.drop (s * e'.w)).take (n * e'.w), _, _, h, rfl, ?_, ?_, by simp [seg]; omega⟩
        · have : s * e'.w + n * e'.w ≤ k.cells.length := by
            rw [← hcells.1, flat_len, ← Nat.add_mul]; exact Nat.mul_le_mul_right _ hlen
          simp [rowA, loadA, hk, this]
        · have := (hcells.drop (s * e'.w)).take (n * e'.w)
          rw [flat_drop, flat_take] at this
          exact this
      · exact h.elim
    · exact h.elim
  · exact h.elim
end
end Go.Proofs.Ytbmejhabgoimeaa.Eng
set_option linter.unusedVariables false
set_option linter.unusedSimpArgs false
namespace Go.Proofs.Ytbmejhabgoimeaa.Eng
open Go Go.RowKit
section
variable {P : Program} {T : Ty} {Q : Nat → Bool} {ρ ρ' : Nm} {S S' : List SB} {H H' : Heap} {t : List SV} {t' : List Value} {B k : Nat} {o : Oper}

theorem all_flat_splice {ea cs : List SV} {o : Nat} (h : (spliceS ea o cs).all flatS = true) : cs.all flatS = true := by
  unfold spliceS at h
  simp only [List.all_append, Bool.and_eq_true] at h
  exact h.1.2
theorem one_dr {xs : List SV} {ys : List Value} (h : LDR ρ xs ys) (hf : xs.all (fun v => match v with | .agg _ => false | .tup _ => false | .arrV _ _ => false | _ => true) = true) : ys.all (·.oneCell') = true := by
  induction xs generalizing ys with
  | nil => rw [h.inv_nil]; rfl
  | cons v xs ih =>
    obtain ⟨v', ys', rfl, h1, h2⟩ := h.inv_cons
    simp only [List.all_cons, Bool.and_eq_true] at hf ⊢
    exact ⟨by cases h1 <;> first | rfl | simp at hf, ih h2 hf.2⟩
theorem putB_ok (hD : Den ρ S H) (hd : Dom ρ S H) (hB : ∀ b id w, k ≤ b → ρ b = some (id, w) → B ≤ id) {b i o id w : Nat} {cs : List SV} {cs' : List Value} (hb : ρ b = some (id, w)) (hc : LDR ρ cs cs') {K : List SB → Prop} (h : putB k S b i o cs K) :
    ∃ S' H', K S' ∧ storeA B H id (i * w + o) cs' = some H' ∧ Step ρ S H ρ S' H' := by
  unfold putB at h
  split at h
  · rename_i e l sz hS
    split at h
    · rename_i hle
      have hle := Nat.le_of_ble_eq_true hle
      obtain ⟨a, ha, h⟩ := atL_iff.1 h
      split at h
      · rename_i a' hdec
        rw [setK_iff] at h
        obtain ⟨kb, hk, rfl, hsz, hwr, hkf, hcells⟩ := hD.get hS rfl hb
        obtain ⟨X, Y, e1, e2, e3⟩ := flat_at ha
        have hsp := e.dec_ok _ _ _ hdec
        rw [List.append_nil] at hsp
        have hfl : cs.all flatS = true := all_flat_splice (by rw [hsp]; exact e.enc_flat a')
        have hfv : cs'.all flatV = true := hc.flat hfl
        have hlen : i * e.w + o + cs'.length ≤ kb.cells.length := by
          rw [← hcells.1, e2, ← hc.1]; simp [e1, e.enc_len]; omega
        refine ⟨_, H.set id (some { kb with cells := splice kb.cells (i * e.w + o) cs' }), h, ?_, Step.put hD hd hb fun _ => ⟨_, rfl, rfl, hsz, hwr, hkf, ?_⟩⟩
        · unfold storeA
          rw [hk]
          simp only
          rw [if_pos ⟨hwr rfl, hlen, hc.one hfl, fun _ => hfv⟩]
        · rw [e3 a', ← hsp, ← splice_at e1 (by rw [e.enc_len]; exact hle), ← e2]
          exact spliceS_ldr hcells hc _
      · exact h.elim
    · exact h.elim
  · rename_i cs0 fl hS
    split at h
    · split at h
      · rename_i hle
        have hle := Nat.le_of_ble_eq_true hle
        split at h
        · rename_i hok
          rw [forceL_iff, setK_iff] at h
          obtain ⟨kb, hk, hcells, hsz, hwr, hfl⟩ := hD.get hS rfl hb
          have hone : cs'.all (·.oneCell') = true := by
            simp only [Bool.or_eq_true, Bool.and_eq_true] at hok
            rcases hok with hok | hok
            · exact hc.one hok
            · exact one_dr hc hok.2
          have hflat : (kb.fl = true ∨ id < B) → cs'.all flatV = true := by
            simp only [Bool.or_eq_true, Bool.and_eq_true, Bool.not_eq_true'] at hok
            rcases hok with hok | ⟨⟨h1, h2⟩, _⟩
            · intro _; exact hc.flat hok
            · rintro (h3 | h3)
              · rw [hfl, h1] at h3; simp at h3
              · have := hB b id w (Nat.le_of_ble_eq_true h2) hb; omega
          refine ⟨_, H.set id (some { kb with cells := splice kb.cells (0 * w + o) cs' }), h, ?_, Step.put hD hd hb fun _ => ⟨_, rfl, ?_, hsz, hwr, hfl⟩⟩
          · unfold storeA
            rw [hk]
            simp only
            rw [if_pos ⟨hwr rfl, by rw [← hcells.1, ← hc.1]; omega, hone, hflat⟩]
          · have := spliceS_ldr hcells hc o
            simpa using this
        · exact h.elim
      · exact h.elim
    · exact h.elim
  · exact h.elim
theorem putA_ok (hD : Den ρ S H) (hd : Dom ρ S H) {d : TyD} {b id w : Nat} {e : ET} {l : List e.T} {cs' : List Value} (hb : ρ b = some (id, w)) (hc : LDR ρ (l.flatMap e.enc) cs') {K : List SB → Prop} (h : putA d S b e l K) :
    ∃ S' H', K S' ∧ storeA B H id 0 cs' = some H' ∧ cs'.length = d.size ∧ Step ρ S H ρ S' H' := by
  unfold putA at h
  split at h
  · rename_i e' l0 sz hS
    split at h
    · rename_i he
      subst he
      obtain ⟨⟨h1, h2⟩, h⟩ := h
      rw [setK_iff] at h
      obtain ⟨kb, hk, rfl, hsz, hwr, hkf, hcells⟩ := hD.get hS rfl hb
      have hlen : cs'.length = kb.cells.length := by rw [← hc.1, ← hcells.1, flat_len, flat_len, h1]
      have hsp : splice kb.cells 0 cs' = cs' := by
        unfold splice
        simp [hlen]
      refine ⟨_, H.set id (some { kb with cells := splice kb.cells 0 cs' }), h, ?_, by rw [← hc.1, flat_len, h2], Step.put hD hd hb fun _ => ⟨_, rfl, rfl, hsz, hwr, hkf, by simp only [hsp]; exact hc⟩⟩
      unfold storeA
      rw [hk]
      simp only
      rw [if_pos ⟨hwr rfl, by omega, hc.one (flat_all l), fun _ => hc.flat (flat_all l)⟩]
    · exact h.elim
  · exact h.elim
theorem storeS_ok (hD : Den ρ S H) (hd : Dom ρ S H) (hB : ∀ b id w, k ≤ b → ρ b = some (id, w) → B ≤ id) {d : TyD} {ty : Nat} (hty : tyOf P ty = some d) {v y : SV} {v' y' : Value} (hv : DR ρ v v') (hy : DR ρ y y') {K : List SB → Prop} (h : storeS k d S v y K) :
    ∃ S' H', K S' ∧ storeVarA (tyOf P) B ty v' y' H = some H' ∧ Step ρ S H ρ S' H' := by
  have fin : ∀ {b i o id w : Nat}, ρ b = some (id, w) → (cellsS y).length = d.size → putB k S b i o (cellsS y) K → ∃ S' H', K S' ∧ storeVarA (tyOf P) B ty (.pointer (some ⟨id, i * w + o, none⟩)) y' H = some H' ∧ Step ρ S H ρ S' H' := fun hb hl h => by
    have hcy := cells_dr hy
    obtain ⟨S', H', h1, h2, h3⟩ := putB_ok hD hd hB hb hcy h
    refine ⟨S', H', h1, ?_, h3⟩
    unfold storeVarA
    simp only [hty]
    rw [if_pos (by rw [← hcy.1]; exact hl)]
    exact h2
  have finA : ∀ {b id w : Nat} {e : ET} {l : List e.T}, ρ b = some (id, w) → cellsS y = l.flatMap e.enc → putA d S b e l K → ∃ S' H', K S' ∧ storeVarA (tyOf P) B ty (.pointer (some ⟨id, 0 * w + 0, none⟩)) y' H = some H' ∧ Step ρ S H ρ S' H' := fun hb hl h => by
    have hcy := cells_dr hy
    rw [hl] at hcy
    obtain ⟨S', H', h1, h2, h3, h4⟩ := putA_ok (B := B) hD hd hb hcy h
    refine ⟨S', H', h1, ?_, h4⟩
    unfold storeVarA
    simp only [hty, Nat.zero_mul, Nat.add_zero]
    rw [if_pos h3]
    exact h2
  have finV : ∀ {b i o id w : Nat}, ρ b = some (id, w) → putV k d S b i o y K → ∃ S' H', K S' ∧ storeVarA (tyOf P) B ty (.pointer (some ⟨id, i * w + o, none⟩)) y' H = some H' ∧ Step ρ S H ρ S' H' := fun hb h => by
    unfold putV at h
    rw [forceL_iff] at h
    split at h
    · rename_i hl
      exact fin hb (by simpa using hl) h
    · exact h.elim
  unfold storeS at h
  split at h
  · rename_i b i o
    cases hv with | ptr _ _ _ id w hb =>
    split at h
    · split at h
      · split at h
        · split at h
          · exact finA hb rfl h
          · rw [forceL_iff] at h
            split at h
            · rename_i hl
              have hl : (cellsS y).length = d.size := by simpa using hl
              split at h
              · split at h
                · rename_i l0 hdec
                  exact finA hb (decN_ok hdec).1.symm h
                · exact h.elim
              · exact fin hb hl h
            · exact h.elim
        · exact finV hb h
      · exact finV hb h
    · exact finV hb h
  · exact h.elim
theorem buildS_ok (hT : TabOk P T Q) {ty : Nat} {d : TyD} (hty : T ty = some d) {l : List (Nat × SV)} {l' : List (Nat × Value)} (hl : PDR ρ l l') {K : SV → Prop} (h : buildS T d l K) : ∃ v v', K v ∧ buildA (tyOf P) ty l' = some v' ∧ DR ρ v v' := by
  have offs : ∀ (fs : List Field) (pl : List (Nat × Nat)), offsL T fs = some pl → offsL (tyOf P) fs = some pl := by
    intro fs
    induction fs with
    | nil => intro pl h; exact h
    | cons f r ih =>
      intro pl h
      simp only [offsL] at h ⊢
      split at h
      · rename_i d l h1 h2
        rw [hT.1 _ _ h1, ih _ h2]; exact h
      · simp at h
  unfold buildS at h
  unfold buildA
  rw [hT.1 _ _ hty]
  simp only
  split at h
  · rename_i fs hu
    split at h
    · rename_i pl hpl
      split at h
      · rename_i z hz
        split at h
        · rename_i cs hcs
          rw [forceL_iff] at h
          obtain ⟨r', h1, h2⟩ := fillS_ok (fun i => getT_eq pl i) (ofVs_ok hz).1 hl hcs
          exact ⟨_, .agg ⟨r'⟩, h, by simp only [hu, offs _ _ hpl, h1]; rfl, .agg _ _ h2.1 h2.2⟩
        · exact h.elim
      · exact h.elim
    · exact h.elim
  · rename_i n e hu
    split at h
    · rename_i de hde
      split at h
      · rename_i z hz
        split at h
        · rename_i cs hcs
          rw [forceL_iff] at h
          obtain ⟨r', h1, h2⟩ := fillS_ok (fun i => rfl) (ofVs_ok hz).1 hl hcs
          exact ⟨_, .agg ⟨r'⟩, h, by simp only [hu, hT.1 _ _ hde, h1]; rfl, .agg _ _ h2.1 h2.2⟩
        · exact h.elim
      · exact h.elim
    · exact h.elim
  · exact h.elim
theorem maxS_ok {k : IntKind} : ∀ {r : List SV} {r' : List Value} {x : Int} {K : SV → Prop}, LDR ρ r r' → maxS k x r K → ∃ v v', K v ∧ maxA (.int k x) r' = some v' ∧ DR ρ v v'
  | [], r', x, K, hr, h => by rw [hr.inv_nil]; exact ⟨_, _, h, rfl, .int _ _⟩
  | v :: r, r', x, K, hr, h => by
    obtain ⟨v', r', rfl, h1, h2⟩ := hr.inv_cons
    cases h1 <;> simp only [maxS] at h
    obtain ⟨v, v', a, b, c⟩ := maxS_ok h2 h
    exact ⟨v, v', a, by simpa only [maxA] using b, c⟩
theorem minS_ok {k : IntKind} : ∀ {r : List SV} {r' : List Value} {x : Int} {K : SV → Prop}, LDR ρ r r' → minS k x r K → ∃ v v', K v ∧ minA (.int k x) r' = some v' ∧ DR ρ v v'
  | [], r', x, K, hr, h => by rw [hr.inv_nil]; exact ⟨_, _, h, rfl, .int _ _⟩
  | v :: r, r', x, K, hr, h => by
    obtain ⟨v', r', rfl, h1, h2⟩ := hr.inv_cons
    cases h1 <;> simp only [minS] at h
    obtain ⟨v, v', a, b, c⟩ := minS_ok h2 h
    exact ⟨v, v', a, by simpa only [minA] using b, c⟩
theorem sliceS_ok (hT : TabOk P T Q) (hD : Den ρ S H) {ty : Nat} {v : SV} {v' : Value} (hv : DR ρ v v') {lo hi mx : Option Int} {K : SV → Prop} (h : sliceS T ty S v lo hi mx K) : ∃ u u', K u ∧ sliceA (tyOf P) ty v' lo hi mx H = some u' ∧ DR ρ u u' := by
  unfold sliceS at h
  split at h
  · exact h.elim
  · rename_i d hd
    have hd' := hT.1 _ _ hd
    unfold sliceA
    rw [hd']
    simp only
    split at h
    · rename_i s
      cases hv
      split at h
      · rename_i hu
        rw [hu]
        simp only
        split at h
        · have hsz : (ByteArray.mk ⟨s⟩).size = s.length := rfl
          have ext : ∀ a b : Nat, b ≤ s.length → (ByteArray.mk ⟨s⟩).extract a b = ⟨⟨(s.take b).drop a⟩⟩ := by
            intro a b hb
            apply ByteArray.ext
            rw [ByteArray.data_extract]
            apply Array.ext'
            simp [List.extract, List.drop_take]
          split at h
          · refine ⟨_, _, h, by rw [if_pos ⟨rfl, by simp, by simp, by simp⟩], ?_⟩
            simp only [Option.getD_none]
            have := ext 0 s.length (Nat.le_refl _)
            simp only [hsz, Int.toNat_zero, Int.toNat_natCast] at this ⊢
            rw [this]; simp; exact .str _
          · rename_i l
            obtain ⟨hv, h⟩ := h; have hv := hv.h
            refine ⟨_, _, h, by rw [if_pos ⟨rfl, by simpa using hv.1, by simp [hsz]; exact hv.2, by simp⟩], ?_⟩
            have := ext l.toNat s.length (Nat.le_refl _)
            simp only [Option.getD_none, Option.getD_some, hsz, Int.toNat_natCast]
            rw [this]; simp; exact .str _
          · rename_i h1
            obtain ⟨hv, h⟩ := h; have hv := hv.h
            refine ⟨_, _, h, by rw [if_pos ⟨rfl, by simp, by simpa using hv.1, by simpa [hsz] using hv.2⟩], ?_⟩
            have := ext 0 h1.toNat (by omega)
            simp only [Option.getD_none, Option.getD_some, Int.toNat_zero]
            rw [this]; simp; exact .str _
          · rename_i l h1
            obtain ⟨hv, h⟩ := h; have hv := hv.h
            refine ⟨_, _, h, by rw [if_pos ⟨rfl, by simpa using hv.1, by simpa using hv.2.1, by simpa [hsz] using hv.2.2⟩], ?_⟩
            have := ext l.toNat h1.toNat (by omega)
            simp only [Option.getD_some]
            rw [this]; exact .str _
        · exact h.elim
      · exact h.elim
    · rename_i b s n x
      cases hv with | sl _ _ _ _ id w hb =>
      split at h
      · rename_i el hu
        rw [hu]
        simp only
        split at h
        · rename_i de hde
          rw [hT.1 _ _ hde]
          split at h
          · rename_i e l sz wr hS
            split at h
            · rename_i hw
              simp only [Bool.and_eq_true, Nat.beq_eq] at hw
              obtain ⟨kb, hk, rfl, hsz, _, _⟩ := hD.get hS rfl hb
              rw [hk]
              simp only
              rw [if_pos (by rw [hsz]; exact hw.1)]
              have addr : ∀ a : Nat, s * e.w + a * de.size = (s + a) * e.w := fun a => by rw [← hw.2, Nat.add_mul]
              split at h
              · split at h
                · refine ⟨_, _, h, by rw [if_pos ⟨by simp, by simp, .inl (by simp), by simp; omega⟩], ?_⟩
                  simpa using DR.sl b s n x id e.w hb
                · rename_i l1
                  obtain ⟨hv, h⟩ := h; have hv := hv.h
                  refine ⟨_, _, h, by rw [if_pos ⟨by simpa using hv.1, by simpa using hv.2, .inl (by simp), by simp only [Option.getD_some]; omega⟩], ?_⟩
                  simp only [Option.getD_some, Option.getD_none, addr, Int.toNat_natCast]
                  rw [show n + x + 1 - l1.toNat = (n - l1.toNat) + x + 1 by omega]
                  exact .sl b _ _ _ id e.w hb
                · rename_i h1
                  obtain ⟨hv, h⟩ := h; have hv := hv.h
                  refine ⟨_, _, h, by rw [if_pos ⟨by simp, by simpa using hv.1, by simp only [Option.getD_some]; omega, by simp only [Option.getD_none]; omega⟩], ?_⟩
                  simp only [Option.getD_some, Option.getD_none, addr, Int.toNat_zero, Nat.add_zero, Nat.sub_zero]
                  rw [show n + x + 1 = h1.toNat + (n + x - h1.toNat) + 1 by omega]
                  exact .sl b _ _ _ id e.w hb
                · rename_i l1 h1
                  obtain ⟨hv, h⟩ := h; have hv := hv.h
                  refine ⟨_, _, h, by rw [if_pos ⟨by simpa using hv.1, by simpa using hv.2.1, by simp only [Option.getD_some]; omega, by simp only [Option.getD_some]; omega⟩], ?_⟩
                  simp only [Option.getD_some, addr]
                  rw [show n + x + 1 - l1.toNat = (h1.toNat - l1.toNat) + (n + x - h1.toNat) + 1 by omega]
                  exact .sl b _ _ _ id e.w hb
              · rename_i m
                split at h
                · exact h.elim
                · rename_i h1
                  obtain ⟨hv, h⟩ := h; have hv := hv.h
                  refine ⟨_, _, h, by dsimp only; rw [if_pos ⟨rfl, hv.1, by simpa using hv.2.1, by simpa using hv.2.2.1, by omega⟩], ?_⟩
                  simp only [Option.getD_some, addr]
                  rw [show m.toNat - (lo.getD 0).toNat + 1 = (h1.toNat - (lo.getD 0).toNat) + (m.toNat - h1.toNat) + 1 by omega]
                  exact .sl b _ _ _ id e.w hb
            · exact h.elim
          · exact h.elim
        · exact h.elim
      · exact h.elim
    · exact h.elim
theorem lenS_ok {v : SV} {v' : Value} (hr : DR ρ v v') {m : Nat} (h : lenS v = some m) : ∃ a c, v' = .slice a m c := by
  cases hr <;> simp [lenS] at h <;> subst h <;> exact ⟨_, _, rfl⟩
theorem appendS_ok (hT : TabOk P T Q) (hD : Den ρ S H) (hd : Dom ρ S H) {ty ty2 : Nat} {s v : SV} {s' v' : Value} (hs : DR ρ s s') (hv : DR ρ v v') {K : SV → List SB → Prop} (h : appendS T k ty ty2 S s v K) :
    ∃ u u' S' H' ρ', K u S' ∧ appendA (tyOf P) B ty ty2 s' v' H = some (u', H') ∧ DR ρ' u u' ∧ Step ρ S H ρ' S' H' := by
  unfold appendS at h
  split at h
  · exact h.elim
  · rename_i hty
    have hty : ty = ty2 := by simpa using hty
    subst hty
    have h' := elemK_ok hT h
    clear h
    obtain ⟨e, x, de, el, h, he, hw, _, hdf⟩ := h'
    split at h
    · exact h.elim
    · rename_i m hm
      obtain ⟨xa, xc, rfl⟩ := lenS_ok hv hm
      obtain ⟨h0, h1⟩ := h
      unfold appendA
      rw [if_pos rfl, he]
      simp only
      by_cases hm0 : m = 0
      · have h0 := h0 hm0
        rw [if_pos hm0]
        split at h0
        · cases hs; exact ⟨_, _, S, H, ρ, h0, rfl, by constructor <;> assumption, .refl hD hd⟩
        · cases hs; exact ⟨_, _, S, H, ρ, h0, rfl, .nils, .refl hD hd⟩
        · exact h0.elim
      · rw [if_neg hm0]
        have h' := rowS_ok hD hm hv (h1 hm0)
        clear h0 h1
        obtain ⟨news, news', xa', xc', h, e1, e2, e3, e4⟩ := h'
        obtain ⟨rfl, _, rfl⟩ := Value.slice.inj e1
        rw [hw, e2]
        simp only
        have hone : news'.all (·.oneCell') = true := e3.one (flat_all news)
        have hnf : news'.all flatV = true := e3.flat (flat_all news)
        split at h
        · cases hs
          obtain ⟨hv1, h⟩ := h
          obtain ⟨ρ', S', g1, g2, g3⟩ := push_ok (x := .arr e news de.size true) (w := e.w) (k := ⟨news', e.w, true, de.fl && news'.all flatV⟩) hD hd (fun ρ' hm => ⟨rfl, hw.symm, fun _ => rfl, by simp [hdf, hnf], e3.mono hm⟩) h
          refine ⟨_, .slice (some ⟨H.length, 0, none⟩) m (m + 1), S', H ++ [some ⟨news', e.w, true, de.fl && news'.all flatV⟩], ρ', g1, by rw [if_pos ⟨hv1.h.1, hv1.h.2, hone⟩]; rfl, sl0 g2, g3⟩
        · rename_i b st n xx
          cases hs with | sl _ _ _ _ id w hb =>
          obtain ⟨olds, olds', ya, yc, h, k1, k2, k3, k4⟩ := rowS_ok hD (m := n) rfl (DR.sl (ρ := ρ) b st n xx id w hb) h
          obtain ⟨rfl, _, rfl⟩ := Value.slice.inj k1
          obtain ⟨hv1, h⟩ := h
          split at h
          · split at h
            · rename_i e' l' sz hS
              split at h
              · rename_i hsz
                have hsz : sz = de.size := by simpa using hsz
                unfold killK at h
                rw [setK_iff] at h
                obtain ⟨kb, hk, _, hsz', hwr, _⟩ := hD.get hS rfl hb
                have hload : loadA H id (st * w) (n * e.w) = some olds' := by simpa [rowA] using k2
                dsimp only
                rw [if_pos ⟨hv1.h.1, hv1.h.2, hone⟩]
                simp only [hload]
                have st1 : Step ρ S H ρ (S.set b .gone) (H.set id none) := Step.put hD hd hb fun e => by simp [isGone] at e
                have cells : LDR ρ ((olds ++ news).flatMap e.enc) (olds' ++ news') := by rw [List.flatMap_append]; exact k3.append e3
                obtain ⟨ρ', S', g1, g2, g3⟩ := push_ok (x := .arr e (olds ++ news) de.size true) (w := e.w) (k := ⟨olds' ++ news', e.w, true, de.fl && (olds' ++ news').all flatV⟩) st1.den st1.dom (fun ρ' hm => ⟨rfl, hw.symm, fun _ => rfl, by rw [hdf, cells.flat (flat_all _)]; rfl, cells.mono hm⟩) h
                refine ⟨_, .slice (some ⟨H.length, 0, none⟩) (n + m) (n + m + 1), S', H.set id none ++ [some ⟨olds' ++ news', e.w, true, de.fl && (olds' ++ news').all flatV⟩], ρ', g1, ?_, sl0 (by simpa using g2), st1.trans g3⟩
                rw [if_neg (by omega), if_neg (by omega), hk]
                simp only
                rw [if_pos ⟨hwr rfl, by rw [hsz', hsz, hw]⟩]
              · exact h.elim
            · exact h.elim
          · exact h.elim
        · exact h.elim
end
end Go.Proofs.Ytbmejhabgoimeaa.Eng
set_option linter.unusedVariables false
set_option linter.unusedSimpArgs false
namespace Go.Proofs.Ytbmejhabgoimeaa.Eng
open Go Go.RowKit
section
variable {P : Program} {T : Ty} {Q : Nat → Bool} {ρ ρ' : Nm} {S S' : List SB} {H H' : Heap} {t : List SV} {t' : List Value} {B k : Nat} {o : Oper}

theorem opS_sound (hT : TabOk P T Q) (hD : Den ρ S H) (hd : Dom ρ S H) (ht : TSD ρ t t') (hB : ∀ b id w, k ≤ b → ρ b = some (id, w) → B ≤ id) {K : SV → List SB → Prop} (h : opS T Q k t S o.op K) : Does P B t' H o ρ S K := by
  obtain ⟨dst, op, ty0, pos, after, guard⟩ := o
  simp only at h
  cases op <;> simp only [opS] at h <;> first | exact h.elim | skip
  case move x =>
    obtain ⟨v, v', h1, h2, h3⟩ := evK_ok ht h
    exact does_same hD hd h1 (by simp only [opA, evL_ev h2]; rfl) h3
  case assign x =>
    obtain ⟨v, v', h1, h2, h3⟩ := evK_ok ht h
    exact does_same hD hd h1 (by simp only [opA, evL_ev h2]; rfl) h3
  case pick c a b =>
    obtain ⟨v, v', h1, h2, h3⟩ := evK_ok ht h
    split at h1
    · rename_i q
      cases h3
      cases q with
      | true =>
        obtain ⟨u, u', g1, g2, g3⟩ := evK_ok ht (h1.t rfl)
        exact does_same hD hd g1 (by simp only [opA, h2, evL_ev g2]; rfl) g3
      | false =>
        obtain ⟨u, u', g1, g2, g3⟩ := evK_ok ht (h1.f rfl)
        exact does_same hD hd g1 (by simp only [opA, h2, evL_ev g2]; rfl) g3
    · exact h1.elim
  case alloc ty =>
    split at h
    · rename_i d hty
      split at h
      · rename_i cs hcs
        obtain ⟨ρ', S', w, h1, h2, h3⟩ := newS_ok (fl' := d.fl) hT hD hd (ofVs_ok hcs).1 rfl h
        exact ⟨_, _, S', _, ρ', h1, by simp only [opA, hT.1 _ _ hty]; rfl, ptr0 h2, h3⟩
      · exact h.elim
    · exact h.elim
  case box ty x =>
    split at h
    · rename_i d hty
      obtain ⟨v, v', h1, h2, h3⟩ := evK_ok ht h
      have hc := cells_dr h3
      split at h1
      · rename_i e l
        split at h1
        · rename_i hdf
          obtain ⟨ρ', S', g1, g2, g3⟩ := push_ok (x := .arr e l 0 true) (w := e.w) (k := ⟨cellsL v', 0, true, d.fl && (cellsL v').all flatV⟩) hD hd (fun ρ' hm => ⟨rfl, rfl, fun _ => rfl, by rw [hdf, hc.flat (flat_all l)]; rfl, hc.mono hm⟩) h1
          exact ⟨_, _, S', _, ρ', g1, by simp only [opA, hT.1 _ _ hty, h2]; rfl, ptr0 g2, g3⟩
        · exact h1.elim
      split at h1
      · rename_i hfl
        obtain ⟨ρ', S', w, g1, g2, g3⟩ := newS_ok (fl' := d.fl && (cellsL v').all flatV) hT hD hd hc (by
          cases hdf : d.fl with
          | false => rfl
          | true =>
            rw [hdf] at hfl
            simp only [Bool.not_true, Bool.false_or] at hfl
            rw [hc.flat hfl]; rfl) h1
        exact ⟨_, _, S', _, ρ', g1, by simp only [opA, hT.1 _ _ hty, h2]; rfl, ptr0 g2, g3⟩
      · exact h1.elim
    · exact h.elim
  case build ty parts =>
    split at h
    · rename_i d hty
      obtain ⟨l, l', h1, h2, h3⟩ := evPK_ok ht h
      obtain ⟨v, v', g1, g2, g3⟩ := buildS_ok hT hty h3 h1
      exact does_same hD hd g1 (by simp only [opA, h2, g2]; rfl) g3
    · exact h.elim
  case buildSlice ty len parts =>
    obtain ⟨e, x, de, el, h, he, hw, hz, hdf⟩ := elemK_ok hT h
    obtain ⟨l, l', h, h2, h3⟩ := evPK_ok ht h
    split at h
    · rename_i hle
      split at h
      · rename_i zs hzs
        split at h
        · rename_i cs hcs
          split at h
          · rename_i es hes
            obtain ⟨r', g1, g2⟩ := fillS_ok (place' := fun i => some (i * de.size, de.size)) (fun i => rfl) (zeros_ldr (ofVs_ok (ρ := ρ) hzs).1 len) h3 hcs
            obtain ⟨f1, f2⟩ := decN_ok hes
            obtain ⟨ρ', S', k1, k2, k3⟩ := push_ok (x := .arr e es de.size true) (w := e.w) (k := ⟨r', de.size, true, de.fl && r'.all flatV⟩) hD hd (fun ρ' hm => ⟨rfl, rfl, fun _ => rfl, by rw [hdf, g2.flat (by rw [← f1]; exact flat_all _)]; rfl, by rw [f1]; exact g2.mono hm⟩) h
            refine ⟨_, .slice (some ⟨H.length, 0, none⟩) len (len + 1), S', _, ρ', k1, ?_, sl0 k2, k3⟩
            simp only [opA, h2, buildSliceA, he]
            rw [if_pos (Nat.le_of_ble_eq_true hle), g1]
          · exact h.elim
        · exact h.elim
      · exact h.elim
    · exact h.elim
  case load ty x =>
    split at h
    · rename_i d hty
      obtain ⟨v, v', h1, h2, h3⟩ := evK_ok ht h
      obtain ⟨u, u', g1, g2, g3⟩ := loadS_ok hD (hT.1 _ _ hty) h3 h1
      exact does_same hD hd g1 (by simp only [opA, h2, g2]; rfl) g3
    · exact h.elim
  case store ty x y =>
    split at h
    · rename_i d hty
      obtain ⟨v, v', h1, h2, h3⟩ := evK_ok ht h
      obtain ⟨u, u', g1, g2, g3⟩ := evK_ok ht h1
      obtain ⟨S', H', k1, k2, k3⟩ := storeS_ok hD hd hB (hT.1 _ _ hty) h3 g3 g1
      exact ⟨_, _, S', H', ρ, k1, by simp only [opA, h2, g2, k2]; rfl, undef_dr ρ, k3⟩
    · exact h.elim
  case nilCheck x =>
    obtain ⟨v, v', h1, h2, h3⟩ := evK_ok ht h
    split at h1
    · cases h3; exact does_same hD hd h1 (by simp only [opA, h2]; rfl) (by constructor; assumption)
    · cases h3; exact does_same hD hd h1 (by simp only [opA, h2]; rfl) (by constructor <;> assumption)
    · exact h1.elim
  case binOp op ty x y yt =>
    obtain ⟨v, v', h1, h2, h3⟩ := evK_ok ht h
    obtain ⟨u, u', g1, g2, g3⟩ := evK_ok ht h1
    obtain ⟨s, w, k1, k2, k3⟩ := binS_ok hT h3 g3 g1
    exact does_same hD hd k1 (by simp only [opA, h2, g2, k2]; rfl) k3
  case unOp op ty x =>
    obtain ⟨v, v', h1, h2, h3⟩ := evK_ok ht h
    split at h1
    · split at h1
      · cases h3; exact does_same hD hd h1 (by simp only [opA, h2, unA]; rfl) (.int _ _)
      · exact h1.elim
    · split at h1
      · cases h3; exact does_same hD hd h1 (by simp only [opA, h2, unA]; rfl) (.bool _)
      · exact h1.elim
    · exact h1.elim
  case convert s d x =>
    obtain ⟨v, v', h1, h2, h3⟩ := evK_ok ht h
    obtain ⟨u, u', g1, g2, g3⟩ := convS_ok hT h3 h1
    exact does_same hD hd g1 (by simp only [opA, h2, g2]; rfl) g3
  case makeFunc f first caps =>
    split at h
    · split at h
      · rename_i hf
        obtain ⟨l, l', h1, h2, h3⟩ := evsK_ok ht h
        have hs : first.size = 0 := by rw [← Array.length_toList, hf]; rfl
        exact does_same hD hd h1 (by simp only [opA, hs, if_true, h2]; rfl) (.fn _ _ _ h3.1 h3.2)
      · exact h.elim
    · exact h.elim
  case makeSlice ty l c =>
    obtain ⟨e, x, de, el, h, he, hw, hz, hdf⟩ := elemK_ok hT h
    obtain ⟨v, v', h1, h2, h3⟩ := evK_ok ht h
    obtain ⟨u, u', g1, g2, g3⟩ := evK_ok ht h1
    split at g1
    · rename_i k0 n
      split at g1
      · rename_i k1 m
        cases h3; cases g3
        obtain ⟨hv, g1⟩ := g1
        obtain ⟨ρ', S', f1, f2, f3⟩ := push_ok (x := .arr e (List.replicate n.toNat x) de.size true) (w := e.w) (k := ⟨zerosL de.zero n.toNat, de.size, true, de.fl⟩) hD hd (fun ρ' hm => ⟨rfl, rfl, fun _ => rfl, hdf, by rw [rep_flat]; exact zeros_ldr (hz ρ') _⟩) g1
        refine ⟨_, .slice (some ⟨H.length, 0, none⟩) n.toNat (n.toNat + 1), S', _, ρ', f1, ?_, sl0 f2, f3⟩
        simp only [opA, h2, g2, makeSliceA, he]
        rw [if_pos hv.h]
      · exact g1.elim
    · exact g1.elim
  case slice ty x lo hi mx =>
    obtain ⟨v, v', h1, h2, h3⟩ := evK_ok ht h
    obtain ⟨l1, h1, e1⟩ := optK_ok ht h1
    obtain ⟨l2, h1, e2⟩ := optK_ok ht h1
    obtain ⟨l3, h1, e3⟩ := optK_ok ht h1
    obtain ⟨u, u', g1, g2, g3⟩ := sliceS_ok hT hD h3 h1
    exact does_same hD hd g1 (by simp only [opA, h2, e1, e2, e3, g2]; rfl) g3
  case fieldAddr ty x f =>
    obtain ⟨v, v', h1, h2, h3⟩ := evK_ok ht h
    split at h1
    · rename_i b i o
      cases h3 with | ptr _ _ _ id w hb =>
      split at h1
      · rename_i d hty
        split at h1
        · rename_i fs hu
          split at h1
          · rename_i fd hfd
            split at h1
            · rename_i df hdf
              split at h1
              · exact h1.elim
              · rename_i hs
                rw [getT_eq, Array.getElem?_toList] at hfd
                have hs' : ¬ df.size = 0 := by intro e; rw [e] at hs; simp at hs
                refine does_same hD hd h1 (v' := .pointer (some ⟨id, i * w + o + fd.offset, none⟩)) ?_ ?_
                · simp only [opA, h2, fieldAtA, hT.1 _ _ hty, hu, hfd, hT.1 _ _ hdf]
                  rw [if_neg hs']; rfl
                · rw [Nat.add_assoc]; exact .ptr b i _ id w hb
            · exact h1.elim
          · exact h1.elim
        · exact h1.elim
      · exact h1.elim
    · exact h1.elim
  case field ty x f =>
    obtain ⟨v, v', h1, h2, h3⟩ := evK_ok ht h
    split at h1
    · rename_i xs
      cases h3 with | agg _ ys hl hr =>
      split at h1
      · rename_i d hty
        split at h1
        · rename_i fs hu
          split at h1
          · rename_i fd hfd
            split at h1
            · rename_i df hdf
              split at h1
              · rename_i hle
                have hle := Nat.le_of_ble_eq_true hle
                rw [getT_eq, Array.getElem?_toList] at hfd
                have hlr : LDR ρ xs ys := ⟨hl, hr⟩
                obtain ⟨u, u', g1, g2, g3⟩ := outS_ok h1 ((hlr.drop fd.offset).take (cnt df))
                refine does_same hD hd g1 ?_ g3
                simp only [opA, h2, fieldA, hT.1 _ _ hty, hu, hfd, partL, hT.1 _ _ hdf]
                unfold cnt at g2 hle
                by_cases ha : aggD df.und = true
                · simp only [ha, if_true] at g2 hle ⊢
                  rw [if_pos (by rw [← hl]; exact hle), g2]; rfl
                · have ha' : aggD df.und = false := by simpa using ha
                  simp only [ha', Bool.false_eq_true, if_false] at g2 hle ⊢
                  rw [List.getElem?_take, if_pos (by omega), List.getElem?_drop] at g2
                  simp only [Nat.add_zero] at g2
                  rw [g2]; rfl
              · exact h1.elim
            · exact h1.elim
          · exact h1.elim
        · exact h1.elim
      · exact h1.elim
    · exact h1.elim
  case indexAddr ty x i =>
    obtain ⟨v, v', h1, h2, h3⟩ := evK_ok ht h
    obtain ⟨u, u', g1, g2, g3⟩ := evK_ok ht h1
    split at g1
    · rename_i d hty
      split at g1
      · rename_i kk n
        cases g3
        split at g1
        · rename_i el hu
          split at g1
          · rename_i b s len xx
            cases h3 with | sl _ _ _ _ id w hb =>
            split at g1
            · rename_i de hde
              split at g1
              · rename_i e l sz wr hS
                split at g1
                · rename_i hw
                  have hw : e.w = de.size := by simpa using hw
                  obtain ⟨kb, hk, rfl, _⟩ := hD.get hS rfl hb
                  obtain ⟨hv, g1⟩ := g1
                  refine does_same hD hd g1 (v' := .pointer (some ⟨id, s * e.w + n.toNat * de.size, none⟩)) ?_ ?_
                  · simp only [opA, h2, g2, indexAtA, hT.1 _ _ hty, hu, hT.1 _ _ hde]
                    rw [if_pos hv.h]; rfl
                  · rw [← hw, ← Nat.add_mul]; exact .ptr b _ 0 id e.w hb
                · exact g1.elim
              · exact g1.elim
            · exact g1.elim
          · exact g1.elim
        · rename_i len el hu
          split at g1
          · rename_i b j
            cases h3 with | ptr _ _ _ id w hb =>
            split at g1
            · rename_i de hde
              split at g1
              · rename_i e l sz wr hS
                split at g1
                · rename_i hw
                  have hw : e.w = de.size := by simpa using hw
                  obtain ⟨kb, hk, rfl, _⟩ := hD.get hS rfl hb
                  obtain ⟨hv, g1⟩ := g1
                  refine does_same hD hd g1 (v' := .pointer (some ⟨id, j * e.w + 0 + n.toNat * de.size, none⟩)) ?_ ?_
                  · simp only [opA, h2, g2, indexAtA, hT.1 _ _ hty, hu, hT.1 _ _ hde]
                    rw [if_pos hv.h]; rfl
                  · rw [← hw, Nat.add_zero, ← Nat.add_mul]; exact .ptr b _ 0 id e.w hb
                · exact g1.elim
              · exact g1.elim
            · exact g1.elim
          · exact g1.elim
        · exact g1.elim
      · exact g1.elim
    · exact g1.elim
  case index ty x i =>
    obtain ⟨v, v', h1, h2, h3⟩ := evK_ok ht h
    obtain ⟨u, u', g1, g2, g3⟩ := evK_ok ht h1
    split at g1
    · rename_i d hty
      split at g1
      · rename_i kk n
        cases g3
        split at g1
        · rename_i hu
          split at g1
          · rename_i s
            cases h3
            obtain ⟨hv, g1⟩ := g1
            obtain ⟨c, hc, g1⟩ := atL_iff.1 g1
            refine does_same hD hd g1 (v' := .int .u8 (c.toNat : Int)) ?_ (.int _ _)
            simp only [opA, h2, g2, indexA, hT.1 _ _ hty, hu]
            rw [if_pos hv.h, hc]; rfl
          · exact g1.elim
        · rename_i len el hu
          split at g1
          · rename_i e l
            cases h3
            split at g1
            · rename_i de hde
              split at g1
              · rename_i hw
                have hw : e.w = de.size := by simpa using hw
                obtain ⟨hv, g1⟩ := g1
                obtain ⟨a, ha, g1⟩ := atL_iff.1 g1
                obtain ⟨X, Y, e1, e2, _⟩ := flat_at ha
                have hen : LDR ρ (e.enc a) ((e.enc a).map toV) := map_toV (e.enc_flat a) ρ
                obtain ⟨u, u', f1, f2, f3⟩ := outS_ok g1 hen
                refine does_same hD hd f1 (v' := u') ?_ f3
                have hlen : (X ++ e.enc a ++ Y).length = X.length + e.w + Y.length := by simp [e.enc_len]; omega
                simp only [opA, h2, g2, indexA, hT.1 _ _ hty, hu, hT.1 _ _ hde, partL]
                rw [if_pos hv.h]
                have hseg : ((X ++ e.enc a ++ Y).drop (n.toNat * de.size)).take de.size = e.enc a := by
                  rw [← hw, ← e1, List.append_assoc, List.drop_left, ← e.enc_len a, List.take_left]
                by_cases hag : aggD de.und = true
                · rw [if_pos hag] at f2 ⊢
                  have hle : n.toNat * de.size + de.size ≤ ((X ++ e.enc a ++ Y).map toV).length := by
                    rw [List.length_map, hlen, e1, hw]; omega
                  rw [e2]
                  simp only [hle, if_true, ← List.map_drop, ← List.map_take, hseg]
                  rw [f2]; rfl
                · rw [if_neg hag] at f2 ⊢
                  have h0 : (((X ++ e.enc a ++ Y).map toV).drop (n.toNat * de.size))[0]? = some u' := by
                    rw [← List.map_drop]
                    have := congrArg (fun z : List SV => (z.map toV)[0]?) hseg
                    simp only [List.map_take] at this
                    rw [f2, List.getElem?_take] at this
                    split at this
                    · exact this
                    · simp at this
                  rw [List.getElem?_drop] at h0
                  simp only [Nat.add_zero] at h0
                  rw [e2, h0]; rfl
              · exact g1.elim
            · exact g1.elim
          · rename_i cs
            cases h3 with | agg _ ys hl hr =>
            split at g1
            · rename_i de hde
              split at g1
              · exact g1.elim
              · rename_i ha
                split at g1
                · rename_i hs
                  have hs : de.size = 1 := by simpa using hs
                  obtain ⟨hv, g1⟩ := g1
                  obtain ⟨c, hc, g1⟩ := atL_iff.1 g1
                  have hlr : LDR ρ cs ys := ⟨hl, hr⟩
                  obtain ⟨c', hc', hr'⟩ := hlr.get hc
                  refine does_same hD hd g1 (v' := c') ?_ hr'
                  simp only [opA, h2, g2, indexA, hT.1 _ _ hty, hu, hT.1 _ _ hde, partL, ha]
                  rw [if_pos hv.h, hs, Nat.mul_one]
                  simp [hc']
                · exact g1.elim
            · exact g1.elim
          · exact g1.elim
        · exact g1.elim
      · exact g1.elim
    · exact g1.elim
  case extract x i =>
    obtain ⟨v, v', h1, h2, h3⟩ := evK_ok ht h
    split at h1
    · rename_i vs
      cases h3 with | tup _ ys hl hr =>
      split at h1
      · rename_i u hu
        rw [getT_eq] at hu
        have hlr : LDR ρ vs ys := ⟨hl, hr⟩
        obtain ⟨u', hu', hr'⟩ := hlr.get hu
        exact does_same hD hd h1 (by simp only [opA, h2]; simp [hu']) hr'
      · exact h1.elim
    · exact h1.elim
  case call c =>
    obtain ⟨callee, args, tys⟩ := c
    simp only at h
    split at h
    · rename_i b hb0
      obtain ⟨l, l', h, h2, h3⟩ := evsK_ok ht h
      split at h
      · -- len
        split at h
        · rename_i ty r1 hty0
          split at h
          · rename_i x r2
            split at h
            · rename_i d hty
              obtain ⟨x', r', rfl, hx, hr⟩ := h3.inv_cons
              split at h
              · rename_i hu
                split at h
                · cases hx
                  refine does_same hD hd h ?_ (.int _ _)
                  simp only [opA, h2, hty0, builtinA, lenA, hT.1 _ _ hty, hu]; rfl
                · exact h.elim
              · rename_i n el hu
                refine does_same hD hd h ?_ (.int _ _)
                simp only [opA, h2, hty0, builtinA, lenA, hT.1 _ _ hty, hu]; rfl
              · rename_i el hu
                split at h
                · cases hx
                  refine does_same hD hd h ?_ (.int _ _)
                  simp only [opA, h2, hty0, builtinA, lenA, hT.1 _ _ hty, hu]; rfl
                · cases hx with
                  | optN _ _ _ id w hb hn hx0 =>
                    subst hn
                    refine does_same hD hd h ?_ (.int _ _)
                    simp only [opA, h2, hty0, builtinA, lenA, hT.1 _ _ hty, hu]; rfl
                  | optS _ _ _ id w hb =>
                    refine does_same hD hd h ?_ (.int _ _)
                    simp only [opA, h2, hty0, builtinA, lenA, hT.1 _ _ hty, hu]; rfl
                · cases hx
                  refine does_same hD hd h ?_ (.int _ _)
                  simp only [opA, h2, hty0, builtinA, lenA, hT.1 _ _ hty, hu]; rfl
                · exact h.elim
              · exact h.elim
            · exact h.elim
          · exact h.elim
        · exact h.elim
      · -- max
        split at h
        · rename_i kk x r
          obtain ⟨x', r', rfl, hx, hr⟩ := h3.inv_cons
          cases hx
          obtain ⟨v, v', g1, g2, g3⟩ := maxS_ok hr h
          refine does_same hD hd g1 ?_ g3
          simp only [opA, h2, builtinA, g2]; rfl
        · exact h.elim
      · split at h
        · rename_i kk x r
          obtain ⟨x', r', rfl, hx, hr⟩ := h3.inv_cons
          cases hx
          obtain ⟨v, v', g1, g2, g3⟩ := minS_ok hr h
          refine does_same hD hd g1 ?_ g3
          simp only [opA, h2, builtinA, g2]; rfl
        · exact h.elim
      · -- append
        split at h
        · rename_i t1 t2 hty0
          split at h
          · rename_i s x
            obtain ⟨s', r', rfl, hs, hr⟩ := h3.inv_cons
            obtain ⟨x', r'', rfl, hx, hr2⟩ := hr.inv_cons
            have := hr2.inv_nil
            subst this
            obtain ⟨u, u', S', H', ρ', g1, g2, g3, g4⟩ := appendS_ok hT hD hd hs hx h
            exact ⟨u, u', S', H', ρ', g1, by simp only [opA, h2, hty0, builtinA]; exact g2, g3, g4⟩
          · exact h.elim
        · exact h.elim
      · exact h.elim
    · exact h.elim
end
end Go.Proofs.Ytbmejhabgoimeaa.Eng
