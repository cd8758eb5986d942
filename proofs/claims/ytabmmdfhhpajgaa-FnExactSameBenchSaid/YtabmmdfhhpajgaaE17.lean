/- A text of this claim (E17): lemmas for the proof, no conditions of their own. -/
import Derived.Test.YtabmmdfhhpajgaaE15
set_option linter.unusedVariables false
set_option linter.unusedSimpArgs false
namespace Go.Proofs.Ytabmmdfhhpajgaa.Eng
open Go Go.RowKit

/-! ### regions that draw their order -/
section
variable {P : Program} {T : Ty} {eqOk : Nat → Bool} {B : Nat} {t t' : List Value} {H : Heap}

theorem evAllL_congr : ∀ (xs : List Operand), (∀ x ∈ xs, evL t' x = evL t x) → evAllL t' xs = evAllL t xs
  | [], _ => rfl
  | x :: r, h => by simp only [evAllL]; rw [h x (by simp), evAllL_congr r fun y hy => h y (by simp [hy])]
theorem evParts_congr : ∀ (xs : List (Nat × Operand)), (∀ p ∈ xs, evL t' p.2 = evL t p.2) → evParts t' xs = evParts t xs
  | [], _ => rfl
  | (i, x) :: r, h => by
    have h1 := h (i, x) (by simp)
    simp only [evParts]; rw [h1, evParts_congr r fun y hy => h y (by simp [hy])]
theorem optInt_congr {x : Option Operand} (h : ∀ y ∈ x.toList, evL t' y = evL t y) : optInt t' x = optInt t x := by
  cases x with
  | none => rfl
  | some y => simp only [optInt]; rw [h y (by simp)]

theorem opA_congr {o : Oper} (h : ∀ x ∈ o.op.operands, ev t' x = ev t x) : opA T eqOk B t' H o = opA T eqOk B t H o := by
  have hL : ∀ x ∈ o.op.operands, evL t' x = evL t x := fun x hx => by simp only [evL, h x hx]
  obtain ⟨dst, op, ty0, pos, after, guard⟩ := o
  simp only at h hL
  cases op with
  | build ty ps =>
    simp only [opA]
    rw [evParts_congr ps.toList fun p hp => hL p.2 (by simp only [Op.operands, List.mem_toArray, List.mem_map]; exact ⟨p, by simpa using hp, rfl⟩)]
  | buildSlice ty n ps =>
    simp only [opA]
    rw [evParts_congr ps.toList fun p hp => hL p.2 (by simp only [Op.operands, List.mem_toArray, List.mem_map]; exact ⟨p, by simpa using hp, rfl⟩)]
  | makeFunc f first caps =>
    cases f <;> simp only [opA]
    rw [evAllL_congr caps.toList fun x hx => hL x (by simp only [Op.operands, Array.mem_append]; exact .inr (by simpa using hx))]
  | slice ty x lo hi mx =>
    simp only [opA]
    rw [hL x (by simp [Op.operands]), optInt_congr (x := lo) fun y hy => hL y (by cases lo <;> simp_all [Op.operands]), optInt_congr (x := hi) fun y hy => hL y (by cases hi <;> simp_all [Op.operands]), optInt_congr (x := mx) fun y hy => hL y (by cases mx <;> simp_all [Op.operands])]
  | call c =>
    obtain ⟨callee, args, tys⟩ := c
    cases callee with
    | builtin b =>
      simp only [opA]
      rw [evAllL_congr args.toList fun x hx => hL x (by simp only [Op.operands, Call.operands]; simp; simpa using hx)]
    | _ => rfl
  | alloc e => rfl
  | _ => first
    | rfl
    | (simp [Op.operands] at h hL; simp only [opA, h, hL])

/-- Operations that neither read nor change the heap. -/
def isPure (o : Oper) : Bool := match o.op with
  | .move _ | .assign _ | .pick _ _ _ | .build _ _ | .nilCheck _ | .binOp _ _ _ _ _ | .unOp _ _ _ | .convert _ _ _ | .makeFunc _ _ _ | .fieldAddr _ _ _ | .field _ _ _ | .indexAddr _ _ _ | .index _ _ _ | .extract _ _ => true
  | .call ⟨.builtin .len, _, _⟩ | .call ⟨.builtin .max, _, _⟩ | .call ⟨.builtin .min, _, _⟩ => true
  | _ => false
theorem map_pair_any {α : Type} {x : Option α} {H H1 : Heap} {v : α} (h : x.map (·, H) = some (v, H1)) : H1 = H ∧ ∀ G : Heap, x.map (·, G) = some (v, G) := by
  cases x <;> simp at h ⊢
  exact ⟨h.2.symm, h.1⟩
theorem opA_pure {o : Oper} {v : Value} {H1 : Heap} (hp : isPure o = true) (h : opA T eqOk B t H o = some (v, H1)) : H1 = H ∧ ∀ G : Heap, opA T eqOk B t G o = some (v, G) := by
  obtain ⟨dst, op, ty0, pos, after, guard⟩ := o
  cases op with
  | makeFunc f first caps =>
    cases f with
    | func f =>
      simp only [opA] at h ⊢
      split at h
      · rename_i h0
        simp only [h0, if_true]
        cases hl : evAllL t caps.toList <;> simp [hl] at h ⊢
        exact ⟨h.2.symm, h.1⟩
      · simp at h
    | _ => simp [opA] at h
  | call c =>
    obtain ⟨callee, args, tys⟩ := c
    cases callee with
    | builtin b =>
      simp only [opA] at h ⊢
      split at h
      · rename_i l hl
        cases b <;> simp [isPure] at hp <;> simp only [builtinA] at h ⊢ <;> split at h <;> first | (have := map_pair_any h; simp_all; done) | (simp at h; done) | simp_all
      · simp at h
    | _ => simp [opA] at h
  | _ => first
    | (simp [isPure] at hp; done)
    | (simp only [opA] at h ⊢
       repeat' split at h
       all_goals first
         | (simp at h; done)
         | (have := map_pair_any h; simp_all; done)
         | (simp_all; done))
end
end Go.Proofs.Ytabmmdfhhpajgaa.Eng
