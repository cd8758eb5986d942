/- tot: lemmas for the proof, no conditions of their own. -/
import Derived.Test.YtbmejhabgoimeaaXnum
import Derived.Test.YtbmejhabgoimeaaXlists
set_option linter.unusedVariables false
set_option linter.unusedSimpArgs false
namespace Go.Proofs.Ytbmejhabgoimeaa.Eng
open Go Go.RowKit
set_option maxRecDepth 100000
/-- The sizes of all elements. -/
def tot {α : Type} (f : α → Nat) (l : List α) : Nat := (l.map f).sum
theorem tot_step {α : Type} {f : α → Nat} {L : List α} {i : Nat} {a : α} (h : L[i]? = some a) : tot f (L.take (i + 1)) = tot f (L.take i) + f a := by
  unfold tot; rw [List.take_add_one, h]; simp
theorem tot_le {α : Type} {f : α → Nat} {L : List α} (i : Nat) : tot f (L.take i) ≤ tot f L := by
  have h : tot f L = tot f (L.take i) + tot f (L.drop i) := by
    unfold tot; rw [← List.sum_append, ← List.map_append, List.take_append_drop]
  omega
end Go.Proofs.Ytbmejhabgoimeaa.Eng
