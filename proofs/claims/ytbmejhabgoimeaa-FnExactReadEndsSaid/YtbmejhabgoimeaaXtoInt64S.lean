/- toInt64S: lemmas for the proof, no conditions of their own. -/
import Derived.Test.YtbmejhabgoimeaaXnum
import Derived.Test.YtbmejhabgoimeaaXlists
set_option linter.unusedVariables false
set_option linter.unusedSimpArgs false
namespace Go.Proofs.Ytbmejhabgoimeaa.Eng
open Go Go.RowKit
set_option maxRecDepth 100000
def s_toInt64S : Spec := fun args S => match args, S with
  | [.opt c 0 n 0], [.arrO (.int .i64) l 1] => ⟨n ≤ l.length ∧ (c = true → l = []) ∧ n ≤ 1048576, .sl 1 0 n 0, [.arrO (.int .i64) l 1, .arr (.int .i64) (seg l 0 n) 1 true]⟩
  | [.sl 0 s n x], [.arr (.int .i64) l 1 wr] => ⟨s + n ≤ l.length ∧ n ≤ 1048576, .sl 1 0 n 0, [.arr (.int .i64) l 1 wr, .arr (.int .i64) (seg l s n) 1 true]⟩
  | _, _ => noSpec
end Go.Proofs.Ytbmejhabgoimeaa.Eng
