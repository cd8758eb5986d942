/-
  No cell of these rows narrows 'for every input' (looked for: loops, veiled, ifaces, maps, wideKeys, modest, calm, conditions, laid).
  DERIVED. THE GIVEN ROWS OF THIS SEAT. 4 by the template 'for every input the law returns true; each argument reads behind the call as it read before'; 0 by the template 'total and deterministic' (their statements: YtiojoddcckhjdaaTotals.lean).
  GIVEN WITH THE SEED: the statements are not yours to turn. If you find one false, say at which input.
  Laid BY PROGRAM, IN A SANDBOX (cutbox-rows.mjs): the forced cells as the released guide's own fill.sh prints them over the translation fc8012e22aeb425a… (all of the seat's roots in one cut). By AI agents, Wed Nov 11 2026. No macro, syntax, notation, axiom, sorry.
-/
import Derived.Test.YtiojoddcckhjdaaChecked
import GoSem.Claim
import GoSem.ClaimJoined
import GoSem.ClaimMapViews
import Derived.JoinedTies
import Derived.KernelRfl
namespace Go.Proofs.Ytiojoddcckhjdaa
/- THE CELL 'sum', in the pinned program and in every row, IS THE sha256 OF THE DUMP (.gsa) THAT YtiojoddcckhjdaaProg.lean LOADS. Nothing in Lean hashes anything: it is a label: what it is worth is what the hold of that sum in a sandbox is worth. -/
noncomputable def Try.pinned : Pinned := { name := "ytiojoddcckhjdaa", sum := "fc8012e22aeb425a8eeafc59ef98d36ca9002c3dfe840f634ed5d84873b897af", checked := Try.checked }
namespace Rows
def none {H : Type} : Left H := { results := [], args := [] }

/-- 'laws.FnExactTrimmedMean': WHATEVER THE INPUT: true; the input reads as it did. -/
def fnExactTrimmedMeanSpec : ChangeSpec := { name := "fnExactTrimmedMean", fn := fun _ => fun
  | [d1, d2] => { results := [.lit (.bool true)], args := [d1, d2] }
  | _ => none }
def fnExactTrimmedMeanRow : OpenClaim := { program := "ytiojoddcckhjdaa", sum := "fc8012e22aeb425a8eeafc59ef98d36ca9002c3dfe840f634ed5d84873b897af", func := "loop.example/g01254/laws.FnExactTrimmedMean", spec := "fnExactTrimmedMean", unfollowed := true, recurses := true, apart := false }
def FnExactTrimmedMeanSaid : Prop := fnExactTrimmedMeanRow.holds Try.pinned (OpenSpec.ofChange fnExactTrimmedMeanSpec)

/-- ITS FALSE NEIGHBOUR: 'it returns false'. Refute it at one input. -/
def fnExactTrimmedMeanWrong : ChangeSpec := { name := "fnExactTrimmedMean", fn := fun _ => fun
  | [d1, d2] => { results := [.lit (.bool false)], args := [d1, d2] }
  | _ => none }
def FnExactTrimmedMeanWrongFalsely : Prop := fnExactTrimmedMeanRow.holds Try.pinned (OpenSpec.ofChange fnExactTrimmedMeanWrong)

/-- 'laws.FnExactMedianOf': WHATEVER THE INPUT: true; the input reads as it did. -/
def fnExactMedianOfSpec : ChangeSpec := { name := "fnExactMedianOf", fn := fun _ => fun
  | [d] => { results := [.lit (.bool true)], args := [d] }
  | _ => none }
def fnExactMedianOfRow : OpenClaim := { program := "ytiojoddcckhjdaa", sum := "fc8012e22aeb425a8eeafc59ef98d36ca9002c3dfe840f634ed5d84873b897af", func := "loop.example/g01254/laws.FnExactMedianOf", spec := "fnExactMedianOf", unfollowed := true, recurses := true, apart := false }
def FnExactMedianOfSaid : Prop := fnExactMedianOfRow.holds Try.pinned (OpenSpec.ofChange fnExactMedianOfSpec)

/-- ITS FALSE NEIGHBOUR: 'it returns false'. Refute it at one input. -/
def fnExactMedianOfWrong : ChangeSpec := { name := "fnExactMedianOf", fn := fun _ => fun
  | [d] => { results := [.lit (.bool false)], args := [d] }
  | _ => none }
def FnExactMedianOfWrongFalsely : Prop := fnExactMedianOfRow.holds Try.pinned (OpenSpec.ofChange fnExactMedianOfWrong)

/-- 'laws.FnExactScatterOf': WHATEVER THE INPUT: true; the input reads as it did. -/
def fnExactScatterOfSpec : ChangeSpec := { name := "fnExactScatterOf", fn := fun _ => fun
  | [d] => { results := [.lit (.bool true)], args := [d] }
  | _ => none }
def fnExactScatterOfRow : OpenClaim := { program := "ytiojoddcckhjdaa", sum := "fc8012e22aeb425a8eeafc59ef98d36ca9002c3dfe840f634ed5d84873b897af", func := "loop.example/g01254/laws.FnExactScatterOf", spec := "fnExactScatterOf", unfollowed := true, recurses := true, apart := false }
def FnExactScatterOfSaid : Prop := fnExactScatterOfRow.holds Try.pinned (OpenSpec.ofChange fnExactScatterOfSpec)

/-- ITS FALSE NEIGHBOUR: 'it returns false'. Refute it at one input. -/
def fnExactScatterOfWrong : ChangeSpec := { name := "fnExactScatterOf", fn := fun _ => fun
  | [d] => { results := [.lit (.bool false)], args := [d] }
  | _ => none }
def FnExactScatterOfWrongFalsely : Prop := fnExactScatterOfRow.holds Try.pinned (OpenSpec.ofChange fnExactScatterOfWrong)

/-- 'laws.FnExactLeaveOut': WHATEVER THE INPUT: true; the input reads as it did. -/
def fnExactLeaveOutSpec : ChangeSpec := { name := "fnExactLeaveOut", fn := fun _ => fun
  | [d1, d2] => { results := [.lit (.bool true)], args := [d1, d2] }
  | _ => none }
def fnExactLeaveOutRow : OpenClaim := { program := "ytiojoddcckhjdaa", sum := "fc8012e22aeb425a8eeafc59ef98d36ca9002c3dfe840f634ed5d84873b897af", func := "loop.example/g01254/laws.FnExactLeaveOut", spec := "fnExactLeaveOut", unfollowed := true, recurses := true, apart := false }
def FnExactLeaveOutSaid : Prop := fnExactLeaveOutRow.holds Try.pinned (OpenSpec.ofChange fnExactLeaveOutSpec)

/-- ITS FALSE NEIGHBOUR: 'it returns false'. Refute it at one input. -/
def fnExactLeaveOutWrong : ChangeSpec := { name := "fnExactLeaveOut", fn := fun _ => fun
  | [d1, d2] => { results := [.lit (.bool false)], args := [d1, d2] }
  | _ => none }
def FnExactLeaveOutWrongFalsely : Prop := fnExactLeaveOutRow.holds Try.pinned (OpenSpec.ofChange fnExactLeaveOutWrong)

/- THE SECOND FORM. 'bulk': how many values and letters a reading holds, each counted each time it is reached (what is shared counts as often as it is met; a slice's spare places count too). A statement '..UptoSaid' is the law's where the arguments, and the package variables that the reading takes, are together of bulk at most 1048576: NARROWER than '..Said'. Prove '..Said' where nothing that the law and all that it calls make is longer than what came in: it says more and counts as full. Else prove '..UptoSaid'. A law counts once. -/
mutual
def uptoBulk {H : Type} : DataW H → Nat
  | .lit (.string bytes) => bytes.length + 1
  | .lit _ => 1
  | .nil => 1
  | .ptr d => uptoBulk d + 1
  | .slice elems spare => uptoBulkAll elems + uptoBulkAll spare + 1
  | .agg parts => uptoBulkAll parts + 1
  | .iface _ d => uptoBulk d + 1
  | .map entries => uptoBulkEntries entries + 1
  | .held _ => 1
def uptoBulkAll {H : Type} : List (DataW H) → Nat
  | [] => 0
  | d :: r => uptoBulk d + uptoBulkAll r
def uptoBulkEntries {H : Type} : List (Lit × DataW H) → Nat
  | [] => 0
  | x :: r => uptoBulkEntry x + uptoBulkEntries r
def uptoBulkEntry {H : Type} : Lit × DataW H → Nat
  | (.string bytes, d) => bytes.length + uptoBulk d + 1
  | (_, d) => uptoBulk d + 1
 end
def uptoSmall : (H : Type) → List (DataW H) → Bool := fun _ ds => decide (uptoBulkAll ds ≤ 1048576)
def OpenSpec.upto (s : _root_.Go.ChangeSpec) : _root_.Go.OpenSpec := { _root_.Go.OpenSpec.ofChange s with cond := some uptoSmall }

/-- 'laws.FnExactTrimmedMean', WHERE WHAT IT READS IS OF BULK AT MOST 1048576: true; the input reads as it did. -/
def fnExactTrimmedMeanUptoRow : OpenClaim := { program := "ytiojoddcckhjdaa", sum := "fc8012e22aeb425a8eeafc59ef98d36ca9002c3dfe840f634ed5d84873b897af", func := "loop.example/g01254/laws.FnExactTrimmedMean", spec := "fnExactTrimmedMean", unfollowed := true, recurses := true, apart := false, narrowed := true }
def FnExactTrimmedMeanUptoSaid : Prop := fnExactTrimmedMeanUptoRow.holds Try.pinned (OpenSpec.upto fnExactTrimmedMeanSpec)

/-- 'laws.FnExactMedianOf', WHERE WHAT IT READS IS OF BULK AT MOST 1048576: true; the input reads as it did. -/
def fnExactMedianOfUptoRow : OpenClaim := { program := "ytiojoddcckhjdaa", sum := "fc8012e22aeb425a8eeafc59ef98d36ca9002c3dfe840f634ed5d84873b897af", func := "loop.example/g01254/laws.FnExactMedianOf", spec := "fnExactMedianOf", unfollowed := true, recurses := true, apart := false, narrowed := true }
def FnExactMedianOfUptoSaid : Prop := fnExactMedianOfUptoRow.holds Try.pinned (OpenSpec.upto fnExactMedianOfSpec)

/-- 'laws.FnExactScatterOf', WHERE WHAT IT READS IS OF BULK AT MOST 1048576: true; the input reads as it did. -/
def fnExactScatterOfUptoRow : OpenClaim := { program := "ytiojoddcckhjdaa", sum := "fc8012e22aeb425a8eeafc59ef98d36ca9002c3dfe840f634ed5d84873b897af", func := "loop.example/g01254/laws.FnExactScatterOf", spec := "fnExactScatterOf", unfollowed := true, recurses := true, apart := false, narrowed := true }
def FnExactScatterOfUptoSaid : Prop := fnExactScatterOfUptoRow.holds Try.pinned (OpenSpec.upto fnExactScatterOfSpec)

/-- 'laws.FnExactLeaveOut', WHERE WHAT IT READS IS OF BULK AT MOST 1048576: true; the input reads as it did. -/
def fnExactLeaveOutUptoRow : OpenClaim := { program := "ytiojoddcckhjdaa", sum := "fc8012e22aeb425a8eeafc59ef98d36ca9002c3dfe840f634ed5d84873b897af", func := "loop.example/g01254/laws.FnExactLeaveOut", spec := "fnExactLeaveOut", unfollowed := true, recurses := true, apart := false, narrowed := true }
def FnExactLeaveOutUptoSaid : Prop := fnExactLeaveOutUptoRow.holds Try.pinned (OpenSpec.upto fnExactLeaveOutSpec)

end Rows
end Go.Proofs.Ytiojoddcckhjdaa
