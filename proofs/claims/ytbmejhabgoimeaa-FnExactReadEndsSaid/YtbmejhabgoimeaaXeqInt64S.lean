/- eqInt64S: lemmas for the proof, no conditions of their own. -/
import Derived.Test.YtbmejhabgoimeaaXnum
import Derived.Test.YtbmejhabgoimeaaXlists
set_option linter.unusedVariables false
set_option linter.unusedSimpArgs false
namespace Go.Proofs.Ytbmejhabgoimeaa.Eng
open Go Go.RowKit
set_option maxRecDepth 100000
end Go.Proofs.Ytbmejhabgoimeaa.Eng
