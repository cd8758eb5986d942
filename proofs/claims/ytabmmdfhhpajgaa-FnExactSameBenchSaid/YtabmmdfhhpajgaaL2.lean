/- A text of this claim (L2): lemmas for the proof, no conditions of their own. -/
import Derived.Test.YtabmmdfhhpajgaaL1
set_option linter.unusedVariables false
set_option linter.unusedSimpArgs false
namespace Go.Proofs.Ytabmmdfhhpajgaa.Eng
open Go Go.RowKit

/-! ### a law's arguments with slices inside -/
/-- The shape of a value: plain, a slice of plain elements, or two such. -/
inductive VT where
  | flat (e : ET) | sl (e : ET) | pr (a b : VT)
def VT.w : VT → Nat
  | .flat e => e.w
  | .sl _ => 1
  | .pr a b => a.w + b.w
def isVs (g : Nat → VT → Bool) : List Field → Nat → VT → Bool
  | [], _, _ => false
  | [f], off, e => f.offset == off && g f.type e
  | f :: r, off, .pr a b => f.offset == off && g f.type a && isVs g r (off + a.w) b
  | _ :: _ :: _, _, _ => false
/-- Values of type t have the shape. -/
def isV (T : Ty) : Nat → Nat → VT → Bool
  | 0, _, _ => false
  | n + 1, t, .flat e => isE T (n + 1) t e
  | n + 1, t, e => match T t with
    | none => false
    | some d => d.size == e.w && match d.und with
      | .slice el => match e with | .sl e' => isE T n el e' | _ => false
      | .struct fs => isVs (isV T n) fs.toList 0 e
      | _ => false
section
variable {P : Program} {T : Ty} {Q : Nat → Bool} {Hh : Type} {enc : TypeId × Value → Hh} {W : World} {held : Bool}
/-- What the cells of such a value are. -/
def Opens (W : World) : VT → List Value → Prop
  | .flat e, cs => ∃ y : e.T, cs = (e.enc y).map toV ∧ e.Ok y
  | .sl e, cs => ∃ (v : Value) (l : List e.T), cs = [v] ∧ (∀ y ∈ l, e.Ok y) ∧ l.length ≤ 9223372036854775807 ∧ ((v = .slice none 0 0 ∧ l = []) ∨ ∃ (a : Addr) (len cap : Nat), v = .slice (some a) len cap ∧ len ≤ cap ∧ l.length = cap ∧ ∀ i, i < cap * e.w → W.cell? (a.add i) = ((l.flatMap e.enc).map toV)[i]?)
  | .pr a b, cs => ∃ c1 c2 : List Value, cs = c1 ++ c2 ∧ Opens W a c1 ∧ Opens W b c2
theorem Opens.len : ∀ {e : VT} {cs : List Value}, Opens W e cs → cs.length = e.w
  | .flat e, cs, h => by obtain ⟨y, rfl, _⟩ := h; simp [VT.w, e.enc_len]
  | .sl e, cs, h => by obtain ⟨v, l, rfl, _⟩ := h; rfl
  | .pr a b, cs, h => by obtain ⟨c1, c2, rfl, h1, h2⟩ := h; rw [List.length_append, h1.len, h2.len]; rfl
theorem isVs_ok {g : Nat → VT → Bool} {cs : List Value} {rd : Field → Prop} (hg : ∀ f e, rd f → g f.type e = true → Opens W e ((cs.drop f.offset).take (P.cellsOf f.type))) :
    ∀ {l : List Field} {off : Nat} {e : VT}, isVs g l off e = true → (∀ f ∈ l, rd f) → Opens W e ((cs.drop off).take e.w)
  | [], off, e, h, _ => by simp [isVs] at h
  | [f], off, e, h, hr => by
    simp only [isVs, Bool.and_eq_true, beq_iff_eq] at h
    obtain ⟨rfl, h⟩ := h
    have h1 := hg f e (hr f (by simp)) h
    rw [take_same rfl h1.len]; exact h1
  | f :: f2 :: r, off, e, h, hr => by
    cases e with
    | pr a b =>
      simp only [isVs, Bool.and_eq_true, beq_iff_eq] at h
      obtain ⟨⟨rfl, h1⟩, h2⟩ := h
      have g1 := hg f a (hr f (by simp)) h1
      have k1 := isVs_ok hg h2 (fun f hf => hr f (List.mem_cons_of_mem _ hf))
      refine ⟨(cs.drop f.offset).take a.w, (cs.drop (f.offset + a.w)).take b.w, ?_, by rw [take_same rfl g1.len]; exact g1, k1⟩
      rw [← List.drop_drop]
      simp only [VT.w]
      rw [List.take_add]
    | _ => simp [isVs] at h
theorem isV_ok (hT : TabOk P T Q) : ∀ {n t : Nat} {e : VT} {fuel : Nat} {cs : List Value} {x : DataW Hh × List MemPlace}, isV T n t e = true → DataW.trod enc P W 0 (fun _ => true) held fuel t cs = some x → Opens W e cs
  | 0, t, e, fuel, cs, x, h, _ => by simp [isV] at h
  | n + 1, t, e, fuel, cs, x, h, hx => by
    have hs : ∀ (e : VT) (d : TyD), T t = some d → (d.size == e.w && match d.und with
      | .slice el => match e with | .sl e' => isE T n el e' | _ => false
      | .struct fs => isVs (isV T n) fs.toList 0 e
      | _ => false) = true → Opens W e cs := fun e d hd h => by
      obtain ⟨hc, hu⟩ := tab_cells hT hd
      simp only [Bool.and_eq_true, beq_iff_eq] at h
      obtain ⟨hsz, h⟩ := h
      split at h
      · rename_i el he
        rw [he] at hu
        split at h
        · rename_i e'
          obtain ⟨v, rfl⟩ : ∃ v, cs = [v] := by
            rcases Go.Deep.open_slice hu hx with ⟨h1, _⟩ | ⟨a, len, cap, m, n', D, Pl, h1, _⟩
            · exact ⟨_, h1⟩
            · exact ⟨_, h1⟩
          obtain ⟨l, q1, q2, q3⟩ := slice_open hT hu h hx
          exact ⟨v, l, rfl, q1, q2, q3⟩
        · simp at h
      · rename_i fs he
        rw [he] at hu
        obtain ⟨xs, m, _, _, hlen, hxl, hf⟩ := DataW.trod_struct hu hx
        have h1 := isVs_ok (W := W) (rd := fun f : Field => ∃ i : Nat, fs[i]? = some f) (fun f e' ⟨i, hi⟩ he' => by
          have hi' : i < xs.length := by rw [hxl]; exact (Array.getElem?_eq_some_iff.1 hi).1
          have := hf i f hi
          rw [List.getElem?_eq_getElem hi'] at this
          exact isV_ok hT he' this) h (fun f hf => by
          obtain ⟨i, hi⟩ := List.getElem?_of_mem hf
          exact ⟨i, by rwa [Array.getElem?_toList] at hi⟩)
        rw [List.drop_zero, List.take_of_length_le (by omega)] at h1
        exact h1
      · simp at h
    cases e with
    | flat e => exact isE_ok hT h hx
    | sl e =>
      simp only [isV] at h
      split at h
      · simp at h
      · rename_i d hd; exact hs _ d hd h
    | pr a b =>
      simp only [isV] at h
      split at h
      · simp at h
      · rename_i d hd; exact hs _ d hd h
variable {ρ : Nm} {S : List SB} {H : Heap} {ι : Ren} {as : List SV} {raw vs : List Value}
/-- Plain cells. -/
theorem Ent.cells (h : Ent W ρ S H ι as raw vs) {xs : List SV} (hs : xs.all flatS = true) : Ent W ρ S H ι (as ++ xs) (raw ++ xs.map toV) (vs ++ xs.map toV) := by
  have hl : LDR ρ xs (xs.map toV) := by
    refine ⟨by simp, fun i v v' h1 h2 => ?_⟩
    rw [List.getElem?_map, h1] at h2
    simp at h2; subst h2
    exact toV_rel (List.all_eq_true.1 hs v (List.mem_of_getElem? h1)) ρ
  have hf := hl.flat hs
  exact ⟨h.den, h.dom, h.args.append hl, h.rel, h.vals.append (LRel.flat fun v hv => List.all_eq_true.1 hf v hv), h.ro, h.len⟩
theorem LDR.tail {ρ : Nm} {as bs : List SV} {ra rb : List Value} (hl : as.length = ra.length) (h : LDR ρ (as ++ bs) (ra ++ rb)) : LDR ρ as ra ∧ LDR ρ bs rb := by
  obtain ⟨h1, h2⟩ := h
  refine ⟨⟨hl, fun i v v' e1 e2 => h2 i v v' ?_ ?_⟩, ⟨by simp at h1; omega, fun i v v' e1 e2 => h2 (as.length + i) v v' ?_ ?_⟩⟩
  · rw [List.getElem?_append_left (List.getElem?_eq_some_iff.1 e1).1]; exact e1
  · rw [List.getElem?_append_left (List.getElem?_eq_some_iff.1 e2).1]; exact e2
  · rw [List.getElem?_append_right (by omega), Nat.add_sub_cancel_left]; exact e1
  · rw [hl, List.getElem?_append_right (by omega), Nat.add_sub_cancel_left]; exact e2
theorem LRel.tail {ι : Ren} {as bs ra rb : List Value} (hl : as.length = ra.length) (h : LRel ι (as ++ bs) (ra ++ rb)) : LRel ι as ra ∧ LRel ι bs rb := by
  obtain ⟨h1, h2⟩ := h
  refine ⟨⟨hl, fun i v v' e1 e2 => h2 i v v' ?_ ?_⟩, ⟨by simp at h1; omega, fun i v v' e1 e2 => h2 (as.length + i) v v' ?_ ?_⟩⟩
  · rw [List.getElem?_append_left (List.getElem?_eq_some_iff.1 e1).1]; exact e1
  · rw [List.getElem?_append_left (List.getElem?_eq_some_iff.1 e2).1]; exact e2
  · rw [List.getElem?_append_right (by omega), Nat.add_sub_cancel_left]; exact e1
  · rw [hl, List.getElem?_append_right (by omega), Nat.add_sub_cancel_left]; exact e2
/-- Cells put together to a struct: m arguments stay as they are. -/
theorem Ent.pack (h : Ent W ρ S H ι as raw vs) (m : Nat) : Ent W ρ S H ι (as.take m ++ [.agg (as.drop m)]) (raw.take m ++ [.agg ⟨raw.drop m⟩]) (vs.take m ++ [.agg ⟨vs.drop m⟩]) := by
  have l1 := h.args.1
  have l2 := h.vals.1
  have ha := h.args
  rw [← List.take_append_drop m as, ← List.take_append_drop m raw] at ha
  have hv := h.vals
  rw [← List.take_append_drop m raw, ← List.take_append_drop m vs] at hv
  obtain ⟨a1, a2⟩ := LDR.tail (by simp; omega) ha
  obtain ⟨v1, v2⟩ := LRel.tail (by simp; omega) hv
  exact ⟨h.den, h.dom, a1.append (.cons (.agg _ _ a2.1 a2.2) (.nil ρ)), h.rel, v1.append (.cons (.agg _ _ v2.1 v2.2) (.nil ι)), h.ro, h.len⟩
end
end Go.Proofs.Ytabmmdfhhpajgaa.Eng
