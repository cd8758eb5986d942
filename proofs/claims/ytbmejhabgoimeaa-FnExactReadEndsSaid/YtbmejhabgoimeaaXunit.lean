/- unit: lemmas for the proof, no conditions of their own. -/
import Derived.Test.YtbmejhabgoimeaaXnum
import Derived.Test.YtbmejhabgoimeaaXlists
import Derived.Test.YtbmejhabgoimeaaXgcd
import Derived.Test.YtbmejhabgoimeaaXl01gcd
import Derived.Test.YtbmejhabgoimeaaXreadings
set_option linter.unusedVariables false
set_option linter.unusedSimpArgs false
namespace Go.Proofs.Ytbmejhabgoimeaa.Eng
open Go Go.RowKit
set_option maxRecDepth 100000
/-- The common unit. -/
def unitZ (L : List Int) : Int := L.foldl (fun g n => (Int.gcd g n : Int)) 0
theorem gcd_small {g n : Int} (hg : 0 ≤ g ∧ g ≤ 1000000) (hn : -1000000 ≤ n ∧ n ≤ 1000000) : 0 ≤ (Int.gcd g n : Int) ∧ (Int.gcd g n : Int) ≤ 1000000 := by
  refine ⟨by omega, ?_⟩
  by_cases h : n = 0
  · subst h; simp; omega
  · have := Nat.le_of_dvd (by omega) (Nat.gcd_dvd_right g.natAbs n.natAbs)
    have e : Int.gcd g n = Nat.gcd g.natAbs n.natAbs := rfl
    omega
theorem unit_step {L : List Int} {i : Nat} {a : Int} (ha : L[i]? = some a) : unitZ (L.take (i + 1)) = (Int.gcd (unitZ (L.take i)) a : Int) := by
  rw [List.take_add_one, ha]; simp [unitZ, List.foldl_append]
theorem are_all {L : List Int} (h : areB L = true) {i : Nat} {a : Int} (ha : L[i]? = some a) : -1000000 ≤ a ∧ a ≤ 1000000 := by
  unfold areB at h
  simp only [Bool.and_eq_true] at h
  have := List.all_eq_true.1 h.2 a (List.mem_of_getElem? ha)
  simpa [plainB] using this
theorem are_len {L : List Int} (h : areB L = true) : 1 ≤ L.length ∧ L.length ≤ 64 := by
  unfold areB at h
  simp only [Bool.and_eq_true, decide_eq_true_eq] at h
  exact h.1
def s_unit : Spec := fun args S => match args, S with
  | [.sl 0 s n x], [.arr (.int .i64) l 1 wr] => ⟨s + n ≤ l.length ∧ n ≤ 1048576, .tup [.int .i64 (if areB (seg l s n) = true then unitZ (seg l s n) else 0), .int .i64 (areCode (seg l s n))], [.arr (.int .i64) l 1 wr]⟩
  | _, _ => noSpec
end Go.Proofs.Ytbmejhabgoimeaa.Eng
