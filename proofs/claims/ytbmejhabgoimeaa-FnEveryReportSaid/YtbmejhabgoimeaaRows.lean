/-
  No cell of these rows narrows 'for every input' (looked for: loops, veiled, ifaces, maps, wideKeys, modest, calm, conditions, laid).
  DERIVED. THE GIVEN ROWS OF THIS SEAT. 2 by the template 'for every input the law returns true; each argument reads behind the call as it read before'; 0 by the template 'total and deterministic' (their statements: YtbmejhabgoimeaaTotals.lean).
  GIVEN WITH THE SEED: the statements are not yours to turn. If you find one false, say at which input.
  Laid BY PROGRAM, IN A SANDBOX (cutbox-rows.mjs): the forced cells as the released guide's own fill.sh prints them over the translation 02aa1291c51351d6… (all of the seat's roots in one cut). By AI agents, Wed Nov 11 2026. No macro, syntax, notation, axiom, sorry.
-/
import Derived.Test.YtbmejhabgoimeaaChecked
import GoSem.Claim
import GoSem.ClaimJoined
import GoSem.ClaimMapViews
import Derived.JoinedTies
import Derived.KernelRfl
namespace Go.Proofs.Ytbmejhabgoimeaa
/- THE CELL 'sum', in the pinned program and in every row, IS THE sha256 OF THE DUMP (.gsa) THAT YtbmejhabgoimeaaProg.lean LOADS. Nothing in Lean hashes anything: it is a label: what it is worth is what the hold of that sum in a sandbox is worth. -/
noncomputable def Try.pinned : Pinned := { name := "ytbmejhabgoimeaa", sum := "02aa1291c51351d6771b6613d003fdfb3f538feb92ee816c8e611f3e57d59d70", checked := Try.checked }
namespace Rows
def none {H : Type} : Left H := { results := [], args := [] }

/-- 'laws.FnExactReadEnds': WHATEVER THE INPUT: true; the input reads as it did. -/
def fnExactReadEndsSpec : ChangeSpec := { name := "fnExactReadEnds", fn := fun _ => fun
  | [d1, d2] => { results := [.lit (.bool true)], args := [d1, d2] }
  | _ => none }
def fnExactReadEndsRow : OpenClaim := { program := "ytbmejhabgoimeaa", sum := "02aa1291c51351d6771b6613d003fdfb3f538feb92ee816c8e611f3e57d59d70", func := "loop.example/g01254/laws.FnExactReadEnds", spec := "fnExactReadEnds", unfollowed := true, recurses := true, apart := false }
def FnExactReadEndsSaid : Prop := fnExactReadEndsRow.holds Try.pinned (OpenSpec.ofChange fnExactReadEndsSpec)

/-- ITS FALSE NEIGHBOUR: 'it returns false'. Refute it at one input. -/
def fnExactReadEndsWrong : ChangeSpec := { name := "fnExactReadEnds", fn := fun _ => fun
  | [d1, d2] => { results := [.lit (.bool false)], args := [d1, d2] }
  | _ => none }
def FnExactReadEndsWrongFalsely : Prop := fnExactReadEndsRow.holds Try.pinned (OpenSpec.ofChange fnExactReadEndsWrong)

/-- 'laws.FnEveryReport': WHATEVER THE INPUT: true; the input reads as it did. -/
def fnEveryReportSpec : ChangeSpec := { name := "fnEveryReport", fn := fun _ => fun
  | [d1, d2] => { results := [.lit (.bool true)], args := [d1, d2] }
  | _ => none }
def fnEveryReportRow : OpenClaim := { program := "ytbmejhabgoimeaa", sum := "02aa1291c51351d6771b6613d003fdfb3f538feb92ee816c8e611f3e57d59d70", func := "loop.example/g01254/laws.FnEveryReport", spec := "fnEveryReport", unfollowed := true, recurses := true, apart := false }
def FnEveryReportSaid : Prop := fnEveryReportRow.holds Try.pinned (OpenSpec.ofChange fnEveryReportSpec)

/-- ITS FALSE NEIGHBOUR: 'it returns false'. Refute it at one input. -/
def fnEveryReportWrong : ChangeSpec := { name := "fnEveryReport", fn := fun _ => fun
  | [d1, d2] => { results := [.lit (.bool false)], args := [d1, d2] }
  | _ => none }
def FnEveryReportWrongFalsely : Prop := fnEveryReportRow.holds Try.pinned (OpenSpec.ofChange fnEveryReportWrong)

/- THE SECOND FORM. 'bulk': how many values and letters a reading holds, each counted each time it is reached (what is shared counts as often as it is met; a slice's spare places count too). A statement '..UptoSaid' is the law's where the arguments, and the package variables that the reading takes, are together of bulk at most 1048576: NARROWER than '..Said'. Prove '..Said' where nothing that the law and all that it calls make is longer than what came in: it says more and counts as full. Else prove '..UptoSaid'. A law counts once. -/
mutual
def uptoBulk {H : Type} : DataW H → Nat
  | .lit (.string bytes) => bytes.length + 1
  | .lit _ => 1
  | .nil => 1
  | .ptr d => uptoBulk d + 1
  | .slice elems spare => uptoBulkAll elems + uptoBulkAll spare + 1
  | .agg parts => uptoBulkAll parts + 1
  | .iface _ d => uptoBulk d + 1
  | .map entries => uptoBulkEntries entries + 1
  | .held _ => 1
def uptoBulkAll {H : Type} : List (DataW H) → Nat
  | [] => 0
  | d :: r => uptoBulk d + uptoBulkAll r
def uptoBulkEntries {H : Type} : List (Lit × DataW H) → Nat
  | [] => 0
  | x :: r => uptoBulkEntry x + uptoBulkEntries r
def uptoBulkEntry {H : Type} : Lit × DataW H → Nat
  | (.string bytes, d) => bytes.length + uptoBulk d + 1
  | (_, d) => uptoBulk d + 1
 end
def uptoSmall : (H : Type) → List (DataW H) → Bool := fun _ ds => decide (uptoBulkAll ds ≤ 1048576)
def OpenSpec.upto (s : _root_.Go.ChangeSpec) : _root_.Go.OpenSpec := { _root_.Go.OpenSpec.ofChange s with cond := some uptoSmall }

/-- 'laws.FnExactReadEnds', WHERE WHAT IT READS IS OF BULK AT MOST 1048576: true; the input reads as it did. -/
def fnExactReadEndsUptoRow : OpenClaim := { program := "ytbmejhabgoimeaa", sum := "02aa1291c51351d6771b6613d003fdfb3f538feb92ee816c8e611f3e57d59d70", func := "loop.example/g01254/laws.FnExactReadEnds", spec := "fnExactReadEnds", unfollowed := true, recurses := true, apart := false, narrowed := true }
def FnExactReadEndsUptoSaid : Prop := fnExactReadEndsUptoRow.holds Try.pinned (OpenSpec.upto fnExactReadEndsSpec)

/-- 'laws.FnEveryReport', WHERE WHAT IT READS IS OF BULK AT MOST 1048576: true; the input reads as it did. -/
def fnEveryReportUptoRow : OpenClaim := { program := "ytbmejhabgoimeaa", sum := "02aa1291c51351d6771b6613d003fdfb3f538feb92ee816c8e611f3e57d59d70", func := "loop.example/g01254/laws.FnEveryReport", spec := "fnEveryReport", unfollowed := true, recurses := true, apart := false, narrowed := true }
def FnEveryReportUptoSaid : Prop := fnEveryReportUptoRow.holds Try.pinned (OpenSpec.upto fnEveryReportSpec)

end Rows
end Go.Proofs.Ytbmejhabgoimeaa
