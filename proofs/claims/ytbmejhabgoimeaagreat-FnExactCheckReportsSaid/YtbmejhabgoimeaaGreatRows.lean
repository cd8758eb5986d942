/-
  No cell of these rows narrows 'for every input' (looked for: loops, veiled, ifaces, maps, wideKeys, modest, calm, conditions, laid).
  DERIVED. THE GIVEN ROWS OF THIS SEAT. 6 by the template 'for every input the law returns true; each argument reads behind the call as it read before'; 0 by the template 'total and deterministic' (their statements: YtbmejhabgoimeaaGreatTotals.lean).
  GIVEN WITH THE SEED: the statements are not yours to turn. If you find one false, say at which input.
  Laid BY PROGRAM, IN A SANDBOX (cutbox-rows.mjs): the forced cells as the released guide's own fill.sh prints them over the translation 0d6aabab2f10318a… (all of the seat's roots in one cut). By AI agents, Wed Nov 11 2026. No macro, syntax, notation, axiom, sorry.
-/
import Derived.Test.YtbmejhabgoimeaaGreatChecked
import GoSem.Claim
import GoSem.ClaimJoined
import GoSem.ClaimMapViews
import Derived.JoinedTies
import Derived.KernelRfl
namespace Go.Proofs.YtbmejhabgoimeaaGreat
/- THE CELL 'sum', in the pinned program and in every row, IS THE sha256 OF THE DUMP (.gsa) THAT YtbmejhabgoimeaaGreatProg.lean LOADS. Nothing in Lean hashes anything: it is a label: what it is worth is what the hold of that sum in a sandbox is worth. -/
noncomputable def Tryz.pinned : Pinned := { name := "ytbmejhabgoimeaagreat", sum := "0d6aabab2f10318ad74faf3144af091923dd288445f55beeead743555f0ae96c", checked := Tryz.checked }
namespace Rows
def none {H : Type} : Left H := { results := [], args := [] }

/-- 'laws.FnExactTakeReport': WHATEVER THE INPUT: true; the input reads as it did. -/
def fnExactTakeReportSpec : ChangeSpec := { name := "fnExactTakeReport", fn := fun _ => fun
  | [d1, d2] => { results := [.lit (.bool true)], args := [d1, d2] }
  | _ => none }
def fnExactTakeReportRow : OpenClaim := { program := "ytbmejhabgoimeaagreat", sum := "0d6aabab2f10318ad74faf3144af091923dd288445f55beeead743555f0ae96c", func := "loop.example/g01254/laws.FnExactTakeReport", spec := "fnExactTakeReport", unfollowed := true, recurses := true, apart := false }
def FnExactTakeReportSaid : Prop := fnExactTakeReportRow.holds Tryz.pinned (OpenSpec.ofChange fnExactTakeReportSpec)

/-- ITS FALSE NEIGHBOUR: 'it returns false'. Refute it at one input. -/
def fnExactTakeReportWrong : ChangeSpec := { name := "fnExactTakeReport", fn := fun _ => fun
  | [d1, d2] => { results := [.lit (.bool false)], args := [d1, d2] }
  | _ => none }
def FnExactTakeReportWrongFalsely : Prop := fnExactTakeReportRow.holds Tryz.pinned (OpenSpec.ofChange fnExactTakeReportWrong)

/-- 'laws.FnExactCheckReport': WHATEVER THE INPUT: true; the input reads as it did. -/
def fnExactCheckReportSpec : ChangeSpec := { name := "fnExactCheckReport", fn := fun _ => fun
  | [d1, d2] => { results := [.lit (.bool true)], args := [d1, d2] }
  | _ => none }
def fnExactCheckReportRow : OpenClaim := { program := "ytbmejhabgoimeaagreat", sum := "0d6aabab2f10318ad74faf3144af091923dd288445f55beeead743555f0ae96c", func := "loop.example/g01254/laws.FnExactCheckReport", spec := "fnExactCheckReport", unfollowed := true, recurses := true, apart := false }
def FnExactCheckReportSaid : Prop := fnExactCheckReportRow.holds Tryz.pinned (OpenSpec.ofChange fnExactCheckReportSpec)

/-- ITS FALSE NEIGHBOUR: 'it returns false'. Refute it at one input. -/
def fnExactCheckReportWrong : ChangeSpec := { name := "fnExactCheckReport", fn := fun _ => fun
  | [d1, d2] => { results := [.lit (.bool false)], args := [d1, d2] }
  | _ => none }
def FnExactCheckReportWrongFalsely : Prop := fnExactCheckReportRow.holds Tryz.pinned (OpenSpec.ofChange fnExactCheckReportWrong)

/-- 'laws.FnExactCheckReports': WHATEVER THE INPUT: true; the input reads as it did. -/
def fnExactCheckReportsSpec : ChangeSpec := { name := "fnExactCheckReports", fn := fun _ => fun
  | [d1, d2] => { results := [.lit (.bool true)], args := [d1, d2] }
  | _ => none }
def fnExactCheckReportsRow : OpenClaim := { program := "ytbmejhabgoimeaagreat", sum := "0d6aabab2f10318ad74faf3144af091923dd288445f55beeead743555f0ae96c", func := "loop.example/g01254/laws.FnExactCheckReports", spec := "fnExactCheckReports", unfollowed := true, recurses := true, apart := false }
def FnExactCheckReportsSaid : Prop := fnExactCheckReportsRow.holds Tryz.pinned (OpenSpec.ofChange fnExactCheckReportsSpec)

/-- ITS FALSE NEIGHBOUR: 'it returns false'. Refute it at one input. -/
def fnExactCheckReportsWrong : ChangeSpec := { name := "fnExactCheckReports", fn := fun _ => fun
  | [d1, d2] => { results := [.lit (.bool false)], args := [d1, d2] }
  | _ => none }
def FnExactCheckReportsWrongFalsely : Prop := fnExactCheckReportsRow.holds Tryz.pinned (OpenSpec.ofChange fnExactCheckReportsWrong)

/-- 'laws.FnExactMeetReports': WHATEVER THE INPUT: true; the input reads as it did. -/
def fnExactMeetReportsSpec : ChangeSpec := { name := "fnExactMeetReports", fn := fun _ => fun
  | [d1, d2, d3] => { results := [.lit (.bool true)], args := [d1, d2, d3] }
  | _ => none }
def fnExactMeetReportsRow : OpenClaim := { program := "ytbmejhabgoimeaagreat", sum := "0d6aabab2f10318ad74faf3144af091923dd288445f55beeead743555f0ae96c", func := "loop.example/g01254/laws.FnExactMeetReports", spec := "fnExactMeetReports", unfollowed := true, recurses := true, apart := false }
def FnExactMeetReportsSaid : Prop := fnExactMeetReportsRow.holds Tryz.pinned (OpenSpec.ofChange fnExactMeetReportsSpec)

/-- ITS FALSE NEIGHBOUR: 'it returns false'. Refute it at one input. -/
def fnExactMeetReportsWrong : ChangeSpec := { name := "fnExactMeetReports", fn := fun _ => fun
  | [d1, d2, d3] => { results := [.lit (.bool false)], args := [d1, d2, d3] }
  | _ => none }
def FnExactMeetReportsWrongFalsely : Prop := fnExactMeetReportsRow.holds Tryz.pinned (OpenSpec.ofChange fnExactMeetReportsWrong)

/-- 'laws.FnExactMeanReport': WHATEVER THE INPUT: true; the input reads as it did. -/
def fnExactMeanReportSpec : ChangeSpec := { name := "fnExactMeanReport", fn := fun _ => fun
  | [d1, d2, d3] => { results := [.lit (.bool true)], args := [d1, d2, d3] }
  | _ => none }
def fnExactMeanReportRow : OpenClaim := { program := "ytbmejhabgoimeaagreat", sum := "0d6aabab2f10318ad74faf3144af091923dd288445f55beeead743555f0ae96c", func := "loop.example/g01254/laws.FnExactMeanReport", spec := "fnExactMeanReport", unfollowed := true, recurses := true, apart := false }
def FnExactMeanReportSaid : Prop := fnExactMeanReportRow.holds Tryz.pinned (OpenSpec.ofChange fnExactMeanReportSpec)

/-- ITS FALSE NEIGHBOUR: 'it returns false'. Refute it at one input. -/
def fnExactMeanReportWrong : ChangeSpec := { name := "fnExactMeanReport", fn := fun _ => fun
  | [d1, d2, d3] => { results := [.lit (.bool false)], args := [d1, d2, d3] }
  | _ => none }
def FnExactMeanReportWrongFalsely : Prop := fnExactMeanReportRow.holds Tryz.pinned (OpenSpec.ofChange fnExactMeanReportWrong)

/-- 'laws.FnExactIsLonger': WHATEVER THE INPUT: true; the input reads as it did. -/
def fnExactIsLongerSpec : ChangeSpec := { name := "fnExactIsLonger", fn := fun _ => fun
  | [d1, d2, d3, d4] => { results := [.lit (.bool true)], args := [d1, d2, d3, d4] }
  | _ => none }
def fnExactIsLongerRow : OpenClaim := { program := "ytbmejhabgoimeaagreat", sum := "0d6aabab2f10318ad74faf3144af091923dd288445f55beeead743555f0ae96c", func := "loop.example/g01254/laws.FnExactIsLonger", spec := "fnExactIsLonger", unfollowed := true, recurses := true, apart := false }
def FnExactIsLongerSaid : Prop := fnExactIsLongerRow.holds Tryz.pinned (OpenSpec.ofChange fnExactIsLongerSpec)

/-- ITS FALSE NEIGHBOUR: 'it returns false'. Refute it at one input. -/
def fnExactIsLongerWrong : ChangeSpec := { name := "fnExactIsLonger", fn := fun _ => fun
  | [d1, d2, d3, d4] => { results := [.lit (.bool false)], args := [d1, d2, d3, d4] }
  | _ => none }
def FnExactIsLongerWrongFalsely : Prop := fnExactIsLongerRow.holds Tryz.pinned (OpenSpec.ofChange fnExactIsLongerWrong)

/- THE SECOND FORM. 'bulk': how many values and letters a reading holds, each counted each time it is reached (what is shared counts as often as it is met; a slice's spare places count too). A statement '..UptoSaid' is the law's where the arguments, and the package variables that the reading takes, are together of bulk at most 1048576: NARROWER than '..Said'. Prove '..Said' where nothing that the law and all that it calls make is longer than what came in: it says more and counts as full. Else prove '..UptoSaid'. A law counts once. -/
mutual
def uptoBulk {H : Type} : DataW H → Nat
  | .lit (.string bytes) => bytes.length + 1
  | .lit _ => 1
  | .nil => 1
  | .ptr d => uptoBulk d + 1
  | .slice elems spare => uptoBulkAll elems + uptoBulkAll spare + 1
  | .agg parts => uptoBulkAll parts + 1
  | .iface _ d => uptoBulk d + 1
  | .map entries => uptoBulkEntries entries + 1
  | .held _ => 1
def uptoBulkAll {H : Type} : List (DataW H) → Nat
  | [] => 0
  | d :: r => uptoBulk d + uptoBulkAll r
def uptoBulkEntries {H : Type} : List (Lit × DataW H) → Nat
  | [] => 0
  | x :: r => uptoBulkEntry x + uptoBulkEntries r
def uptoBulkEntry {H : Type} : Lit × DataW H → Nat
  | (.string bytes, d) => bytes.length + uptoBulk d + 1
  | (_, d) => uptoBulk d + 1
 end
def uptoSmall : (H : Type) → List (DataW H) → Bool := fun _ ds => decide (uptoBulkAll ds ≤ 1048576)
def OpenSpec.upto (s : _root_.Go.ChangeSpec) : _root_.Go.OpenSpec := { _root_.Go.OpenSpec.ofChange s with cond := some uptoSmall }

/-- 'laws.FnExactTakeReport', WHERE WHAT IT READS IS OF BULK AT MOST 1048576: true; the input reads as it did. -/
def fnExactTakeReportUptoRow : OpenClaim := { program := "ytbmejhabgoimeaagreat", sum := "0d6aabab2f10318ad74faf3144af091923dd288445f55beeead743555f0ae96c", func := "loop.example/g01254/laws.FnExactTakeReport", spec := "fnExactTakeReport", unfollowed := true, recurses := true, apart := false, narrowed := true }
def FnExactTakeReportUptoSaid : Prop := fnExactTakeReportUptoRow.holds Tryz.pinned (OpenSpec.upto fnExactTakeReportSpec)

/-- 'laws.FnExactCheckReport', WHERE WHAT IT READS IS OF BULK AT MOST 1048576: true; the input reads as it did. -/
def fnExactCheckReportUptoRow : OpenClaim := { program := "ytbmejhabgoimeaagreat", sum := "0d6aabab2f10318ad74faf3144af091923dd288445f55beeead743555f0ae96c", func := "loop.example/g01254/laws.FnExactCheckReport", spec := "fnExactCheckReport", unfollowed := true, recurses := true, apart := false, narrowed := true }
def FnExactCheckReportUptoSaid : Prop := fnExactCheckReportUptoRow.holds Tryz.pinned (OpenSpec.upto fnExactCheckReportSpec)

/-- 'laws.FnExactCheckReports', WHERE WHAT IT READS IS OF BULK AT MOST 1048576: true; the input reads as it did. -/
def fnExactCheckReportsUptoRow : OpenClaim := { program := "ytbmejhabgoimeaagreat", sum := "0d6aabab2f10318ad74faf3144af091923dd288445f55beeead743555f0ae96c", func := "loop.example/g01254/laws.FnExactCheckReports", spec := "fnExactCheckReports", unfollowed := true, recurses := true, apart := false, narrowed := true }
def FnExactCheckReportsUptoSaid : Prop := fnExactCheckReportsUptoRow.holds Tryz.pinned (OpenSpec.upto fnExactCheckReportsSpec)

/-- 'laws.FnExactMeetReports', WHERE WHAT IT READS IS OF BULK AT MOST 1048576: true; the input reads as it did. -/
def fnExactMeetReportsUptoRow : OpenClaim := { program := "ytbmejhabgoimeaagreat", sum := "0d6aabab2f10318ad74faf3144af091923dd288445f55beeead743555f0ae96c", func := "loop.example/g01254/laws.FnExactMeetReports", spec := "fnExactMeetReports", unfollowed := true, recurses := true, apart := false, narrowed := true }
def FnExactMeetReportsUptoSaid : Prop := fnExactMeetReportsUptoRow.holds Tryz.pinned (OpenSpec.upto fnExactMeetReportsSpec)

/-- 'laws.FnExactMeanReport', WHERE WHAT IT READS IS OF BULK AT MOST 1048576: true; the input reads as it did. -/
def fnExactMeanReportUptoRow : OpenClaim := { program := "ytbmejhabgoimeaagreat", sum := "0d6aabab2f10318ad74faf3144af091923dd288445f55beeead743555f0ae96c", func := "loop.example/g01254/laws.FnExactMeanReport", spec := "fnExactMeanReport", unfollowed := true, recurses := true, apart := false, narrowed := true }
def FnExactMeanReportUptoSaid : Prop := fnExactMeanReportUptoRow.holds Tryz.pinned (OpenSpec.upto fnExactMeanReportSpec)

/-- 'laws.FnExactIsLonger', WHERE WHAT IT READS IS OF BULK AT MOST 1048576: true; the input reads as it did. -/
def fnExactIsLongerUptoRow : OpenClaim := { program := "ytbmejhabgoimeaagreat", sum := "0d6aabab2f10318ad74faf3144af091923dd288445f55beeead743555f0ae96c", func := "loop.example/g01254/laws.FnExactIsLonger", spec := "fnExactIsLonger", unfollowed := true, recurses := true, apart := false, narrowed := true }
def FnExactIsLongerUptoSaid : Prop := fnExactIsLongerUptoRow.holds Tryz.pinned (OpenSpec.upto fnExactIsLongerSpec)

end Rows
end Go.Proofs.YtbmejhabgoimeaaGreat
