/-
  No cell of these rows narrows 'for every input' (looked for: loops, veiled, ifaces, maps, wideKeys, modest, calm, conditions, laid).
  DERIVED. THE GIVEN ROWS OF THIS SEAT. 8 by the template 'for every input the law returns true; each argument reads behind the call as it read before'; 0 by the template 'total and deterministic' (their statements: YtabmmdfhhpajgaaTotals.lean).
  GIVEN WITH THE SEED: the statements are not yours to turn. If you find one false, say at which input.
  Laid BY PROGRAM, IN A SANDBOX (cutbox-rows.mjs): the forced cells as the released guide's own fill.sh prints them over the translation 080d2eea47078c8f… (all of the seat's roots in one cut). By AI agents, Wed Nov 11 2026. No macro, syntax, notation, axiom, sorry.
-/
import Derived.Test.YtabmmdfhhpajgaaChecked
import GoSem.Claim
import GoSem.ClaimJoined
import GoSem.ClaimMapViews
import Derived.JoinedTies
import Derived.KernelRfl
namespace Go.Proofs.Ytabmmdfhhpajgaa
/- THE CELL 'sum', in the pinned program and in every row, IS THE sha256 OF THE DUMP (.gsa) THAT YtabmmdfhhpajgaaProg.lean LOADS. Nothing in Lean hashes anything: it is a label: what it is worth is what the hold of that sum in a sandbox is worth. -/
noncomputable def Try.pinned : Pinned := { name := "ytabmmdfhhpajgaa", sum := "080d2eea47078c8fe9d5c258629e358ef6457744d3cc75b65382cd30e07b1acd", checked := Try.checked }
namespace Rows
def none {H : Type} : Left H := { results := [], args := [] }

/-- 'laws.FnExactSameBench': WHATEVER THE INPUT: true; the input reads as it did. -/
def fnExactSameBenchSpec : ChangeSpec := { name := "fnExactSameBench", fn := fun _ => fun
  | [d1, d2] => { results := [.lit (.bool true)], args := [d1, d2] }
  | _ => none }
def fnExactSameBenchRow : OpenClaim := { program := "ytabmmdfhhpajgaa", sum := "080d2eea47078c8fe9d5c258629e358ef6457744d3cc75b65382cd30e07b1acd", func := "loop.example/g01254/laws.FnExactSameBench", spec := "fnExactSameBench", apart := false }
def FnExactSameBenchSaid : Prop := fnExactSameBenchRow.holds Try.pinned (OpenSpec.ofChange fnExactSameBenchSpec)

/-- ITS FALSE NEIGHBOUR: 'it returns false'. Refute it at one input. -/
def fnExactSameBenchWrong : ChangeSpec := { name := "fnExactSameBench", fn := fun _ => fun
  | [d1, d2] => { results := [.lit (.bool false)], args := [d1, d2] }
  | _ => none }
def FnExactSameBenchWrongFalsely : Prop := fnExactSameBenchRow.holds Try.pinned (OpenSpec.ofChange fnExactSameBenchWrong)

/-- 'laws.FnExactValidBench': WHATEVER THE INPUT: true; the input reads as it did. -/
def fnExactValidBenchSpec : ChangeSpec := { name := "fnExactValidBench", fn := fun _ => fun
  | [d] => { results := [.lit (.bool true)], args := [d] }
  | _ => none }
def fnExactValidBenchRow : OpenClaim := { program := "ytabmmdfhhpajgaa", sum := "080d2eea47078c8fe9d5c258629e358ef6457744d3cc75b65382cd30e07b1acd", func := "loop.example/g01254/laws.FnExactValidBench", spec := "fnExactValidBench", unfollowed := true, recurses := true, apart := false }
def FnExactValidBenchSaid : Prop := fnExactValidBenchRow.holds Try.pinned (OpenSpec.ofChange fnExactValidBenchSpec)

/-- ITS FALSE NEIGHBOUR: 'it returns false'. Refute it at one input. -/
def fnExactValidBenchWrong : ChangeSpec := { name := "fnExactValidBench", fn := fun _ => fun
  | [d] => { results := [.lit (.bool false)], args := [d] }
  | _ => none }
def FnExactValidBenchWrongFalsely : Prop := fnExactValidBenchRow.holds Try.pinned (OpenSpec.ofChange fnExactValidBenchWrong)

/-- 'laws.FnExactValidShot': WHATEVER THE INPUT: true; the input reads as it did. -/
def fnExactValidShotSpec : ChangeSpec := { name := "fnExactValidShot", fn := fun _ => fun
  | [d1, d2] => { results := [.lit (.bool true)], args := [d1, d2] }
  | _ => none }
def fnExactValidShotRow : OpenClaim := { program := "ytabmmdfhhpajgaa", sum := "080d2eea47078c8fe9d5c258629e358ef6457744d3cc75b65382cd30e07b1acd", func := "loop.example/g01254/laws.FnExactValidShot", spec := "fnExactValidShot", unfollowed := true, recurses := true, apart := false }
def FnExactValidShotSaid : Prop := fnExactValidShotRow.holds Try.pinned (OpenSpec.ofChange fnExactValidShotSpec)

/-- ITS FALSE NEIGHBOUR: 'it returns false'. Refute it at one input. -/
def fnExactValidShotWrong : ChangeSpec := { name := "fnExactValidShot", fn := fun _ => fun
  | [d1, d2] => { results := [.lit (.bool false)], args := [d1, d2] }
  | _ => none }
def FnExactValidShotWrongFalsely : Prop := fnExactValidShotRow.holds Try.pinned (OpenSpec.ofChange fnExactValidShotWrong)

/-- 'laws.FnExactFindThing': WHATEVER THE INPUT: true; the input reads as it did. -/
def fnExactFindThingSpec : ChangeSpec := { name := "fnExactFindThing", fn := fun _ => fun
  | [d1, d2] => { results := [.lit (.bool true)], args := [d1, d2] }
  | _ => none }
def fnExactFindThingRow : OpenClaim := { program := "ytabmmdfhhpajgaa", sum := "080d2eea47078c8fe9d5c258629e358ef6457744d3cc75b65382cd30e07b1acd", func := "loop.example/g01254/laws.FnExactFindThing", spec := "fnExactFindThing", unfollowed := true, recurses := true, apart := false }
def FnExactFindThingSaid : Prop := fnExactFindThingRow.holds Try.pinned (OpenSpec.ofChange fnExactFindThingSpec)

/-- ITS FALSE NEIGHBOUR: 'it returns false'. Refute it at one input. -/
def fnExactFindThingWrong : ChangeSpec := { name := "fnExactFindThing", fn := fun _ => fun
  | [d1, d2] => { results := [.lit (.bool false)], args := [d1, d2] }
  | _ => none }
def FnExactFindThingWrongFalsely : Prop := fnExactFindThingRow.holds Try.pinned (OpenSpec.ofChange fnExactFindThingWrong)

/-- 'laws.FnExactEndsOf': WHATEVER THE INPUT: true; the input reads as it did. -/
def fnExactEndsOfSpec : ChangeSpec := { name := "fnExactEndsOf", fn := fun _ => fun
  | [d1, d2] => { results := [.lit (.bool true)], args := [d1, d2] }
  | _ => none }
def fnExactEndsOfRow : OpenClaim := { program := "ytabmmdfhhpajgaa", sum := "080d2eea47078c8fe9d5c258629e358ef6457744d3cc75b65382cd30e07b1acd", func := "loop.example/g01254/laws.FnExactEndsOf", spec := "fnExactEndsOf", unfollowed := true, recurses := true, apart := false }
def FnExactEndsOfSaid : Prop := fnExactEndsOfRow.holds Try.pinned (OpenSpec.ofChange fnExactEndsOfSpec)

/-- ITS FALSE NEIGHBOUR: 'it returns false'. Refute it at one input. -/
def fnExactEndsOfWrong : ChangeSpec := { name := "fnExactEndsOf", fn := fun _ => fun
  | [d1, d2] => { results := [.lit (.bool false)], args := [d1, d2] }
  | _ => none }
def FnExactEndsOfWrongFalsely : Prop := fnExactEndsOfRow.holds Try.pinned (OpenSpec.ofChange fnExactEndsOfWrong)

/-- 'laws.FnExactLengthFrom': WHATEVER THE INPUT: true; the input reads as it did. -/
def fnExactLengthFromSpec : ChangeSpec := { name := "fnExactLengthFrom", fn := fun _ => fun
  | [d1, d2, d3, d4] => { results := [.lit (.bool true)], args := [d1, d2, d3, d4] }
  | _ => none }
def fnExactLengthFromRow : OpenClaim := { program := "ytabmmdfhhpajgaa", sum := "080d2eea47078c8fe9d5c258629e358ef6457744d3cc75b65382cd30e07b1acd", func := "loop.example/g01254/laws.FnExactLengthFrom", spec := "fnExactLengthFrom", unfollowed := true, recurses := true, apart := false }
def FnExactLengthFromSaid : Prop := fnExactLengthFromRow.holds Try.pinned (OpenSpec.ofChange fnExactLengthFromSpec)

/-- ITS FALSE NEIGHBOUR: 'it returns false'. Refute it at one input. -/
def fnExactLengthFromWrong : ChangeSpec := { name := "fnExactLengthFrom", fn := fun _ => fun
  | [d1, d2, d3, d4] => { results := [.lit (.bool false)], args := [d1, d2, d3, d4] }
  | _ => none }
def FnExactLengthFromWrongFalsely : Prop := fnExactLengthFromRow.holds Try.pinned (OpenSpec.ofChange fnExactLengthFromWrong)

/-- 'laws.FnExactOpenSpan': WHATEVER THE INPUT: true; the input reads as it did. -/
def fnExactOpenSpanSpec : ChangeSpec := { name := "fnExactOpenSpan", fn := fun _ => fun
  | [d1, d2, d3, d4] => { results := [.lit (.bool true)], args := [d1, d2, d3, d4] }
  | _ => none }
def fnExactOpenSpanRow : OpenClaim := { program := "ytabmmdfhhpajgaa", sum := "080d2eea47078c8fe9d5c258629e358ef6457744d3cc75b65382cd30e07b1acd", func := "loop.example/g01254/laws.FnExactOpenSpan", spec := "fnExactOpenSpan", unfollowed := true, recurses := true, apart := false }
def FnExactOpenSpanSaid : Prop := fnExactOpenSpanRow.holds Try.pinned (OpenSpec.ofChange fnExactOpenSpanSpec)

/-- ITS FALSE NEIGHBOUR: 'it returns false'. Refute it at one input. -/
def fnExactOpenSpanWrong : ChangeSpec := { name := "fnExactOpenSpan", fn := fun _ => fun
  | [d1, d2, d3, d4] => { results := [.lit (.bool false)], args := [d1, d2, d3, d4] }
  | _ => none }
def FnExactOpenSpanWrongFalsely : Prop := fnExactOpenSpanRow.holds Try.pinned (OpenSpec.ofChange fnExactOpenSpanWrong)

/-- 'laws.FnExactCorrectBench': WHATEVER THE INPUT: true; the input reads as it did. -/
def fnExactCorrectBenchSpec : ChangeSpec := { name := "fnExactCorrectBench", fn := fun _ => fun
  | [d1, d2] => { results := [.lit (.bool true)], args := [d1, d2] }
  | _ => none }
def fnExactCorrectBenchRow : OpenClaim := { program := "ytabmmdfhhpajgaa", sum := "080d2eea47078c8fe9d5c258629e358ef6457744d3cc75b65382cd30e07b1acd", func := "loop.example/g01254/laws.FnExactCorrectBench", spec := "fnExactCorrectBench", unfollowed := true, recurses := true, apart := false }
def FnExactCorrectBenchSaid : Prop := fnExactCorrectBenchRow.holds Try.pinned (OpenSpec.ofChange fnExactCorrectBenchSpec)

/-- ITS FALSE NEIGHBOUR: 'it returns false'. Refute it at one input. -/
def fnExactCorrectBenchWrong : ChangeSpec := { name := "fnExactCorrectBench", fn := fun _ => fun
  | [d1, d2] => { results := [.lit (.bool false)], args := [d1, d2] }
  | _ => none }
def FnExactCorrectBenchWrongFalsely : Prop := fnExactCorrectBenchRow.holds Try.pinned (OpenSpec.ofChange fnExactCorrectBenchWrong)

/- THE SECOND FORM. 'bulk': how many values and letters a reading holds, each counted each time it is reached (what is shared counts as often as it is met; a slice's spare places count too). A statement '..UptoSaid' is the law's where the arguments, and the package variables that the reading takes, are together of bulk at most 1048576: NARROWER than '..Said'. Prove '..Said' where nothing that the law and all that it calls make is longer than what came in: it says more and counts as full. Else prove '..UptoSaid'. A law counts once. -/
mutual
def uptoBulk {H : Type} : DataW H → Nat
  | .lit (.string bytes) => bytes.length + 1
  | .lit _ => 1
  | .nil => 1
  | .ptr d => uptoBulk d + 1
  | .slice elems spare => uptoBulkAll elems + uptoBulkAll spare + 1
  | .agg parts => uptoBulkAll parts + 1
  | .iface _ d => uptoBulk d + 1
  | .map entries => uptoBulkEntries entries + 1
  | .held _ => 1
def uptoBulkAll {H : Type} : List (DataW H) → Nat
  | [] => 0
  | d :: r => uptoBulk d + uptoBulkAll r
def uptoBulkEntries {H : Type} : List (Lit × DataW H) → Nat
  | [] => 0
  | x :: r => uptoBulkEntry x + uptoBulkEntries r
def uptoBulkEntry {H : Type} : Lit × DataW H → Nat
  | (.string bytes, d) => bytes.length + uptoBulk d + 1
  | (_, d) => uptoBulk d + 1
 end
def uptoSmall : (H : Type) → List (DataW H) → Bool := fun _ ds => decide (uptoBulkAll ds ≤ 1048576)
def OpenSpec.upto (s : _root_.Go.ChangeSpec) : _root_.Go.OpenSpec := { _root_.Go.OpenSpec.ofChange s with cond := some uptoSmall }

/-- 'laws.FnExactSameBench', WHERE WHAT IT READS IS OF BULK AT MOST 1048576: true; the input reads as it did. -/
def fnExactSameBenchUptoRow : OpenClaim := { program := "ytabmmdfhhpajgaa", sum := "080d2eea47078c8fe9d5c258629e358ef6457744d3cc75b65382cd30e07b1acd", func := "loop.example/g01254/laws.FnExactSameBench", spec := "fnExactSameBench", apart := false, narrowed := true }
def FnExactSameBenchUptoSaid : Prop := fnExactSameBenchUptoRow.holds Try.pinned (OpenSpec.upto fnExactSameBenchSpec)

/-- 'laws.FnExactValidBench', WHERE WHAT IT READS IS OF BULK AT MOST 1048576: true; the input reads as it did. -/
def fnExactValidBenchUptoRow : OpenClaim := { program := "ytabmmdfhhpajgaa", sum := "080d2eea47078c8fe9d5c258629e358ef6457744d3cc75b65382cd30e07b1acd", func := "loop.example/g01254/laws.FnExactValidBench", spec := "fnExactValidBench", unfollowed := true, recurses := true, apart := false, narrowed := true }
def FnExactValidBenchUptoSaid : Prop := fnExactValidBenchUptoRow.holds Try.pinned (OpenSpec.upto fnExactValidBenchSpec)

/-- 'laws.FnExactValidShot', WHERE WHAT IT READS IS OF BULK AT MOST 1048576: true; the input reads as it did. -/
def fnExactValidShotUptoRow : OpenClaim := { program := "ytabmmdfhhpajgaa", sum := "080d2eea47078c8fe9d5c258629e358ef6457744d3cc75b65382cd30e07b1acd", func := "loop.example/g01254/laws.FnExactValidShot", spec := "fnExactValidShot", unfollowed := true, recurses := true, apart := false, narrowed := true }
def FnExactValidShotUptoSaid : Prop := fnExactValidShotUptoRow.holds Try.pinned (OpenSpec.upto fnExactValidShotSpec)

/-- 'laws.FnExactFindThing', WHERE WHAT IT READS IS OF BULK AT MOST 1048576: true; the input reads as it did. -/
def fnExactFindThingUptoRow : OpenClaim := { program := "ytabmmdfhhpajgaa", sum := "080d2eea47078c8fe9d5c258629e358ef6457744d3cc75b65382cd30e07b1acd", func := "loop.example/g01254/laws.FnExactFindThing", spec := "fnExactFindThing", unfollowed := true, recurses := true, apart := false, narrowed := true }
def FnExactFindThingUptoSaid : Prop := fnExactFindThingUptoRow.holds Try.pinned (OpenSpec.upto fnExactFindThingSpec)

/-- 'laws.FnExactEndsOf', WHERE WHAT IT READS IS OF BULK AT MOST 1048576: true; the input reads as it did. -/
def fnExactEndsOfUptoRow : OpenClaim := { program := "ytabmmdfhhpajgaa", sum := "080d2eea47078c8fe9d5c258629e358ef6457744d3cc75b65382cd30e07b1acd", func := "loop.example/g01254/laws.FnExactEndsOf", spec := "fnExactEndsOf", unfollowed := true, recurses := true, apart := false, narrowed := true }
def FnExactEndsOfUptoSaid : Prop := fnExactEndsOfUptoRow.holds Try.pinned (OpenSpec.upto fnExactEndsOfSpec)

/-- 'laws.FnExactLengthFrom', WHERE WHAT IT READS IS OF BULK AT MOST 1048576: true; the input reads as it did. -/
def fnExactLengthFromUptoRow : OpenClaim := { program := "ytabmmdfhhpajgaa", sum := "080d2eea47078c8fe9d5c258629e358ef6457744d3cc75b65382cd30e07b1acd", func := "loop.example/g01254/laws.FnExactLengthFrom", spec := "fnExactLengthFrom", unfollowed := true, recurses := true, apart := false, narrowed := true }
def FnExactLengthFromUptoSaid : Prop := fnExactLengthFromUptoRow.holds Try.pinned (OpenSpec.upto fnExactLengthFromSpec)

/-- 'laws.FnExactOpenSpan', WHERE WHAT IT READS IS OF BULK AT MOST 1048576: true; the input reads as it did. -/
def fnExactOpenSpanUptoRow : OpenClaim := { program := "ytabmmdfhhpajgaa", sum := "080d2eea47078c8fe9d5c258629e358ef6457744d3cc75b65382cd30e07b1acd", func := "loop.example/g01254/laws.FnExactOpenSpan", spec := "fnExactOpenSpan", unfollowed := true, recurses := true, apart := false, narrowed := true }
def FnExactOpenSpanUptoSaid : Prop := fnExactOpenSpanUptoRow.holds Try.pinned (OpenSpec.upto fnExactOpenSpanSpec)

/-- 'laws.FnExactCorrectBench', WHERE WHAT IT READS IS OF BULK AT MOST 1048576: true; the input reads as it did. -/
def fnExactCorrectBenchUptoRow : OpenClaim := { program := "ytabmmdfhhpajgaa", sum := "080d2eea47078c8fe9d5c258629e358ef6457744d3cc75b65382cd30e07b1acd", func := "loop.example/g01254/laws.FnExactCorrectBench", spec := "fnExactCorrectBench", unfollowed := true, recurses := true, apart := false, narrowed := true }
def FnExactCorrectBenchUptoSaid : Prop := fnExactCorrectBenchUptoRow.holds Try.pinned (OpenSpec.upto fnExactCorrectBenchSpec)

end Rows
end Go.Proofs.Ytabmmdfhhpajgaa
