/- marks: lemmas for the proof, no conditions of their own. -/
import Derived.Test.YtpnlbacfofdibaaXnum
import Derived.Test.YtpnlbacfofdibaaXlists
set_option linter.unusedVariables false
set_option linter.unusedSimpArgs false
namespace Go.Proofs.Ytpnlbacfofdibaa.Eng
open Go Go.RowKit
set_option maxRecDepth 100000
/-- A row of marks: from k on, c to an element. -/
def marks {α : Type} (f : Int → α) (c : Nat) (k : Int) (n : Nat) : List α := (List.range n).map fun i : Nat => f (k + c * (i : Int))
theorem marks_len {α : Type} {f : Int → α} {c : Nat} {k : Int} {n : Nat} : (marks f c k n).length = n := by simp [marks]
theorem marks_get {α : Type} {f : Int → α} {c : Nat} {k : Int} {n i : Nat} (h : i < n) : (marks f c k n)[i]? = some (f (k + c * i)) := by
  unfold marks
  rw [List.getElem?_map, List.getElem?_range h]; rfl
theorem mark_at {α : Type} {M l : List α} {i : Nat} {a : α} (hm : M.length = l.length) (ha : l[i]? = some a) : (M.take i ++ l.drop i)[i]? = some a := by
  have hi := (List.getElem?_eq_some_iff.1 ha).1
  rw [List.getElem?_append_right (by rw [List.length_take]; omega), List.length_take, show i - min i M.length = 0 by omega, List.getElem?_drop]; exact ha
theorem mark_step {α : Type} {M l : List α} {i : Nat} {b : α} (hm : M.length = l.length) (hb : M[i]? = some b) : (M.take i ++ l.drop i).set i b = M.take (i + 1) ++ l.drop (i + 1) := by
  have hi := (List.getElem?_eq_some_iff.1 hb).1
  have h1 : (M.take i).length = i := by rw [List.length_take]; omega
  rw [List.set_append_right _ _ (by omega), h1, Nat.sub_self, List.take_add_one, hb, List.drop_eq_getElem_cons (show i < l.length by omega), List.set_cons_zero]
  simp
theorem mark_step' {α : Type} {M l : List α} {i : Nat} {b c : α} (hm : M.length = l.length) (hb : M[i]? = some b) : ((M.take i ++ l.drop i).set i c).set i b = M.take (i + 1) ++ l.drop (i + 1) := by
  rw [List.set_set, mark_step hm hb]
theorem mark_end {α : Type} {M l : List α} {n : Nat} (hm : M.length = n) (hl : l.length = n) : M.take n ++ l.drop n = M := by
  rw [List.take_of_length_le (by omega), List.drop_eq_nil_of_le (by omega), List.append_nil]
theorem get_set {α : Type} {l : List α} {i : Nat} {a b : α} (ha : l[i]? = some a) : (l.set i b)[i]? = some b := by
  have hi := (List.getElem?_eq_some_iff.1 ha).1
  simp [hi]
theorem atL_set {α : Type} {l : List α} {i : Nat} {b : α} {K : α → Prop} (hl : i < l.length) (h : K b) : atL (l.set (0 + ((i : Nat) : Int).toNat) b) (0 + ((i : Nat) : Int).toNat) K :=
  atL_iff.2 ⟨b, by simp [hl], h⟩
end Go.Proofs.Ytpnlbacfofdibaa.Eng
