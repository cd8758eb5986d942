/-
  No cell of these rows narrows 'for every input' (looked for: loops, veiled, ifaces, maps, wideKeys, modest, calm, conditions, laid).
  DERIVED. THE GIVEN ROWS OF THIS SEAT. 5 by the template 'for every input the law returns true; each argument reads behind the call as it read before'; 0 by the template 'total and deterministic' (their statements: YtonnkpclllmkoaaTotals.lean).
  GIVEN WITH THE SEED: the statements are not yours to turn. If you find one false, say at which input.
  Laid BY PROGRAM, IN A SANDBOX (cutbox-rows.mjs): the forced cells as the released guide's own fill.sh prints them over the translation 737beea5ed72213f… (all of the seat's roots in one cut). By AI agents, Wed Nov 11 2026. No macro, syntax, notation, axiom, sorry.
-/
import Derived.Test.YtonnkpclllmkoaaChecked
import GoSem.Claim
import GoSem.ClaimJoined
import GoSem.ClaimMapViews
import Derived.JoinedTies
import Derived.KernelRfl
namespace Go.Proofs.Ytonnkpclllmkoaa
/- THE CELL 'sum', in the pinned program and in every row, IS THE sha256 OF THE DUMP (.gsa) THAT YtonnkpclllmkoaaProg.lean LOADS. Nothing in Lean hashes anything: it is a label: what it is worth is what the hold of that sum in a sandbox is worth. -/
noncomputable def Try.pinned : Pinned := { name := "ytonnkpclllmkoaa", sum := "737beea5ed72213f0474cbc05f053eef91b209545af66a8afd314ec528fb9e5e", checked := Try.checked }
namespace Rows
def none {H : Type} : Left H := { results := [], args := [] }

/-- 'laws.FnExactAreApart': WHATEVER THE INPUT: true; the input reads as it did. -/
def fnExactAreApartSpec : ChangeSpec := { name := "fnExactAreApart", fn := fun _ => fun
  | [d1, d2, d3, d4] => { results := [.lit (.bool true)], args := [d1, d2, d3, d4] }
  | _ => none }
def fnExactAreApartRow : OpenClaim := { program := "ytonnkpclllmkoaa", sum := "737beea5ed72213f0474cbc05f053eef91b209545af66a8afd314ec528fb9e5e", func := "loop.example/g01254/laws.FnExactAreApart", spec := "fnExactAreApart", unfollowed := true, recurses := true, apart := false }
def FnExactAreApartSaid : Prop := fnExactAreApartRow.holds Try.pinned (OpenSpec.ofChange fnExactAreApartSpec)

/-- ITS FALSE NEIGHBOUR: 'it returns false'. Refute it at one input. -/
def fnExactAreApartWrong : ChangeSpec := { name := "fnExactAreApart", fn := fun _ => fun
  | [d1, d2, d3, d4] => { results := [.lit (.bool false)], args := [d1, d2, d3, d4] }
  | _ => none }
def FnExactAreApartWrongFalsely : Prop := fnExactAreApartRow.holds Try.pinned (OpenSpec.ofChange fnExactAreApartWrong)

/-- 'laws.FnExactNarrowBy': WHATEVER THE INPUT: true; the input reads as it did. -/
def fnExactNarrowBySpec : ChangeSpec := { name := "fnExactNarrowBy", fn := fun _ => fun
  | [d1, d2, d3, d4] => { results := [.lit (.bool true)], args := [d1, d2, d3, d4] }
  | _ => none }
def fnExactNarrowByRow : OpenClaim := { program := "ytonnkpclllmkoaa", sum := "737beea5ed72213f0474cbc05f053eef91b209545af66a8afd314ec528fb9e5e", func := "loop.example/g01254/laws.FnExactNarrowBy", spec := "fnExactNarrowBy", unfollowed := true, recurses := true, apart := false }
def FnExactNarrowBySaid : Prop := fnExactNarrowByRow.holds Try.pinned (OpenSpec.ofChange fnExactNarrowBySpec)

/-- ITS FALSE NEIGHBOUR: 'it returns false'. Refute it at one input. -/
def fnExactNarrowByWrong : ChangeSpec := { name := "fnExactNarrowBy", fn := fun _ => fun
  | [d1, d2, d3, d4] => { results := [.lit (.bool false)], args := [d1, d2, d3, d4] }
  | _ => none }
def FnExactNarrowByWrongFalsely : Prop := fnExactNarrowByRow.holds Try.pinned (OpenSpec.ofChange fnExactNarrowByWrong)

/-- 'laws.FnExactDueBetween': WHATEVER THE INPUT: true; the input reads as it did. -/
def fnExactDueBetweenSpec : ChangeSpec := { name := "fnExactDueBetween", fn := fun _ => fun
  | [d1, d2, d3] => { results := [.lit (.bool true)], args := [d1, d2, d3] }
  | _ => none }
def fnExactDueBetweenRow : OpenClaim := { program := "ytonnkpclllmkoaa", sum := "737beea5ed72213f0474cbc05f053eef91b209545af66a8afd314ec528fb9e5e", func := "loop.example/g01254/laws.FnExactDueBetween", spec := "fnExactDueBetween", unfollowed := true, recurses := true, apart := false }
def FnExactDueBetweenSaid : Prop := fnExactDueBetweenRow.holds Try.pinned (OpenSpec.ofChange fnExactDueBetweenSpec)

/-- ITS FALSE NEIGHBOUR: 'it returns false'. Refute it at one input. -/
def fnExactDueBetweenWrong : ChangeSpec := { name := "fnExactDueBetween", fn := fun _ => fun
  | [d1, d2, d3] => { results := [.lit (.bool false)], args := [d1, d2, d3] }
  | _ => none }
def FnExactDueBetweenWrongFalsely : Prop := fnExactDueBetweenRow.holds Try.pinned (OpenSpec.ofChange fnExactDueBetweenWrong)

/-- 'laws.FnDifferences': WHATEVER THE INPUT: true; the input reads as it did. -/
def fnDifferencesSpec : ChangeSpec := { name := "fnDifferences", fn := fun _ => fun
  | [d1, d2] => { results := [.lit (.bool true)], args := [d1, d2] }
  | _ => none }
def fnDifferencesRow : OpenClaim := { program := "ytonnkpclllmkoaa", sum := "737beea5ed72213f0474cbc05f053eef91b209545af66a8afd314ec528fb9e5e", func := "loop.example/g01254/laws.FnDifferences", spec := "fnDifferences", unfollowed := true, recurses := true, apart := false }
def FnDifferencesSaid : Prop := fnDifferencesRow.holds Try.pinned (OpenSpec.ofChange fnDifferencesSpec)

/-- ITS FALSE NEIGHBOUR: 'it returns false'. Refute it at one input. -/
def fnDifferencesWrong : ChangeSpec := { name := "fnDifferences", fn := fun _ => fun
  | [d1, d2] => { results := [.lit (.bool false)], args := [d1, d2] }
  | _ => none }
def FnDifferencesWrongFalsely : Prop := fnDifferencesRow.holds Try.pinned (OpenSpec.ofChange fnDifferencesWrong)

/-- 'laws.FnUsers': WHATEVER THE INPUT: true; the input reads as it did. -/
def fnUsersSpec : ChangeSpec := { name := "fnUsers", fn := fun _ => fun
  | [d1, d2] => { results := [.lit (.bool true)], args := [d1, d2] }
  | _ => none }
def fnUsersRow : OpenClaim := { program := "ytonnkpclllmkoaa", sum := "737beea5ed72213f0474cbc05f053eef91b209545af66a8afd314ec528fb9e5e", func := "loop.example/g01254/laws.FnUsers", spec := "fnUsers", unfollowed := true, recurses := true, apart := false }
def FnUsersSaid : Prop := fnUsersRow.holds Try.pinned (OpenSpec.ofChange fnUsersSpec)

/-- ITS FALSE NEIGHBOUR: 'it returns false'. Refute it at one input. -/
def fnUsersWrong : ChangeSpec := { name := "fnUsers", fn := fun _ => fun
  | [d1, d2] => { results := [.lit (.bool false)], args := [d1, d2] }
  | _ => none }
def FnUsersWrongFalsely : Prop := fnUsersRow.holds Try.pinned (OpenSpec.ofChange fnUsersWrong)

/- THE SECOND FORM. 'bulk': how many values and letters a reading holds, each counted each time it is reached (what is shared counts as often as it is met; a slice's spare places count too). A statement '..UptoSaid' is the law's where the arguments, and the package variables that the reading takes, are together of bulk at most 1048576: NARROWER than '..Said'. Prove '..Said' where nothing that the law and all that it calls make is longer than what came in: it says more and counts as full. Else prove '..UptoSaid'. A law counts once. -/
mutual
def uptoBulk {H : Type} : DataW H → Nat
  | .lit (.string bytes) => bytes.length + 1
  | .lit _ => 1
  | .nil => 1
  | .ptr d => uptoBulk d + 1
  | .slice elems spare => uptoBulkAll elems + uptoBulkAll spare + 1
  | .agg parts => uptoBulkAll parts + 1
  | .iface _ d => uptoBulk d + 1
  | .map entries => uptoBulkEntries entries + 1
  | .held _ => 1
def uptoBulkAll {H : Type} : List (DataW H) → Nat
  | [] => 0
  | d :: r => uptoBulk d + uptoBulkAll r
def uptoBulkEntries {H : Type} : List (Lit × DataW H) → Nat
  | [] => 0
  | x :: r => uptoBulkEntry x + uptoBulkEntries r
def uptoBulkEntry {H : Type} : Lit × DataW H → Nat
  | (.string bytes, d) => bytes.length + uptoBulk d + 1
  | (_, d) => uptoBulk d + 1
 end
def uptoSmall : (H : Type) → List (DataW H) → Bool := fun _ ds => decide (uptoBulkAll ds ≤ 1048576)
def OpenSpec.upto (s : _root_.Go.ChangeSpec) : _root_.Go.OpenSpec := { _root_.Go.OpenSpec.ofChange s with cond := some uptoSmall }

/-- 'laws.FnExactAreApart', WHERE WHAT IT READS IS OF BULK AT MOST 1048576: true; the input reads as it did. -/
def fnExactAreApartUptoRow : OpenClaim := { program := "ytonnkpclllmkoaa", sum := "737beea5ed72213f0474cbc05f053eef91b209545af66a8afd314ec528fb9e5e", func := "loop.example/g01254/laws.FnExactAreApart", spec := "fnExactAreApart", unfollowed := true, recurses := true, apart := false, narrowed := true }
def FnExactAreApartUptoSaid : Prop := fnExactAreApartUptoRow.holds Try.pinned (OpenSpec.upto fnExactAreApartSpec)

/-- 'laws.FnExactNarrowBy', WHERE WHAT IT READS IS OF BULK AT MOST 1048576: true; the input reads as it did. -/
def fnExactNarrowByUptoRow : OpenClaim := { program := "ytonnkpclllmkoaa", sum := "737beea5ed72213f0474cbc05f053eef91b209545af66a8afd314ec528fb9e5e", func := "loop.example/g01254/laws.FnExactNarrowBy", spec := "fnExactNarrowBy", unfollowed := true, recurses := true, apart := false, narrowed := true }
def FnExactNarrowByUptoSaid : Prop := fnExactNarrowByUptoRow.holds Try.pinned (OpenSpec.upto fnExactNarrowBySpec)

/-- 'laws.FnExactDueBetween', WHERE WHAT IT READS IS OF BULK AT MOST 1048576: true; the input reads as it did. -/
def fnExactDueBetweenUptoRow : OpenClaim := { program := "ytonnkpclllmkoaa", sum := "737beea5ed72213f0474cbc05f053eef91b209545af66a8afd314ec528fb9e5e", func := "loop.example/g01254/laws.FnExactDueBetween", spec := "fnExactDueBetween", unfollowed := true, recurses := true, apart := false, narrowed := true }
def FnExactDueBetweenUptoSaid : Prop := fnExactDueBetweenUptoRow.holds Try.pinned (OpenSpec.upto fnExactDueBetweenSpec)

/-- 'laws.FnDifferences', WHERE WHAT IT READS IS OF BULK AT MOST 1048576: true; the input reads as it did. -/
def fnDifferencesUptoRow : OpenClaim := { program := "ytonnkpclllmkoaa", sum := "737beea5ed72213f0474cbc05f053eef91b209545af66a8afd314ec528fb9e5e", func := "loop.example/g01254/laws.FnDifferences", spec := "fnDifferences", unfollowed := true, recurses := true, apart := false, narrowed := true }
def FnDifferencesUptoSaid : Prop := fnDifferencesUptoRow.holds Try.pinned (OpenSpec.upto fnDifferencesSpec)

/-- 'laws.FnUsers', WHERE WHAT IT READS IS OF BULK AT MOST 1048576: true; the input reads as it did. -/
def fnUsersUptoRow : OpenClaim := { program := "ytonnkpclllmkoaa", sum := "737beea5ed72213f0474cbc05f053eef91b209545af66a8afd314ec528fb9e5e", func := "loop.example/g01254/laws.FnUsers", spec := "fnUsers", unfollowed := true, recurses := true, apart := false, narrowed := true }
def FnUsersUptoSaid : Prop := fnUsersUptoRow.holds Try.pinned (OpenSpec.upto fnUsersSpec)

end Rows
end Go.Proofs.Ytonnkpclllmkoaa
