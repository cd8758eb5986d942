/- eqInt64S: lemmas for the proof, no conditions of their own. -/
import Derived.Test.YtabmmdfhhpajgaaXnum
import Derived.Test.YtabmmdfhhpajgaaXlists
set_option linter.unusedVariables false
set_option linter.unusedSimpArgs false
namespace Go.Proofs.Ytabmmdfhhpajgaa.Eng
open Go Go.RowKit
set_option maxRecDepth 100000
end Go.Proofs.Ytabmmdfhhpajgaa.Eng
