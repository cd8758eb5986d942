/- lawReadingOf: lemmas for the proof, no conditions of their own. -/
import Derived.Test.YtpnlbacfofdibaaXhabit
import Derived.Test.YtpnlbacfofdibaaXmean
set_option linter.unusedVariables false
set_option linter.unusedSimpArgs false
namespace Go.Proofs.Ytpnlbacfofdibaa.Eng
open Go Go.RowKit
set_option maxRecDepth 100000
theorem ok_i16 {b : Int} (h : ET.Ok (.int .i16) b) : -32768 ≤ b ∧ b ≤ 32767 := by
  simpa [ET.Ok, IntKind.min, IntKind.max, IntKind.signed, IntKind.bits] using h
theorem ok_i64 {b : Int} (h : ET.Ok (.int .i64) b) : -9223372036854775808 ≤ b ∧ b ≤ 9223372036854775807 := by
  simpa [ET.Ok, IntKind.min, IntKind.max, IntKind.signed, IntKind.bits] using h
theorem ok_str {s : List UInt8} (h : ET.Ok .str s) : s.length ≤ 9223372036854775807 := h
end Go.Proofs.Ytpnlbacfofdibaa.Eng
