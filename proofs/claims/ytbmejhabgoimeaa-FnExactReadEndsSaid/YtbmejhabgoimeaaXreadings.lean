/- readings: lemmas for the proof, no conditions of their own. -/
import Derived.Test.YtbmejhabgoimeaaXnum
import Derived.Test.YtbmejhabgoimeaaXlists
import Derived.Test.YtbmejhabgoimeaaXwithin
set_option linter.unusedVariables false
set_option linter.unusedSimpArgs false
namespace Go.Proofs.Ytbmejhabgoimeaa.Eng
open Go Go.RowKit
set_option maxRecDepth 100000
/-- A number that is a reading. -/
def plainB (n : Int) : Bool := decide (-1000000 ≤ n ∧ n ≤ 1000000)
def s_count : Spec := fun args S => match args, S with
  | [.int .i64 n], [] => ⟨-9223372036854775808 ≤ n ∧ n < 9223372036854775808, .bool (decide (1 ≤ n ∧ n ≤ 64)), []⟩
  | _, _ => noSpec
def s_plain : Spec := fun args S => match args, S with
  | [.int .i64 n], [] => ⟨True, .bool (plainB n), []⟩
  | _, _ => noSpec
def s_notPlain : Spec := fun args S => match args, S with
  | [.int .i64 n], [] => ⟨True, .bool (!plainB n), []⟩
  | _, _ => noSpec
/-- The first that is not plain. -/
def s_idxPlain (g : Nat) : Spec := fun args S => match args, S with
  | [.sl 0 s n x, .fn g' []], [.arr (.int .i64) l 1 wr] => ⟨g' = g ∧ s + n ≤ l.length ∧ n ≤ 4611686018427387904, .int .i64 (findI (fun a => !plainB a) (seg l s n)), [.arr (.int .i64) l 1 wr]⟩
  | _, _ => noSpec
def s_anyPlain (g : Nat) : Spec := fun args S => match args, S with
  | [.sl 0 s n x, .fn g' []], [.arr (.int .i64) l 1 wr] => ⟨g' = g ∧ s + n ≤ l.length ∧ n ≤ 4611686018427387904, .bool ((seg l s n).any fun a => !plainB a), [.arr (.int .i64) l 1 wr]⟩
  | _, _ => noSpec
/-- Readings. -/
def areB (L : List Int) : Bool := decide (1 ≤ L.length ∧ L.length ≤ 64) && L.all plainB
def s_are : Spec := fun args S => match args, S with
  | [.sl 0 s n x], [.arr (.int .i64) l 1 wr] => ⟨s + n ≤ l.length ∧ n ≤ 1048576, .bool (areB (seg l s n)), [.arr (.int .i64) l 1 wr]⟩
  | _, _ => noSpec
/-- The code of readings. -/
def areCode (L : List Int) : Int := if areB L = true then 0 else 2
def s_l06List : Spec := fun args S => match args, S with
  | [.sl 0 s n x], [.arr (.int .i64) l 1 wr] => ⟨s + n ≤ l.length ∧ n ≤ 1048576, .int .i64 (areCode (seg l s n)), [.arr (.int .i64) l 1 wr]⟩
  | _, _ => noSpec
end Go.Proofs.Ytbmejhabgoimeaa.Eng
