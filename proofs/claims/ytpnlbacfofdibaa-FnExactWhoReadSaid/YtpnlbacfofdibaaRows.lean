/-
  No cell of these rows narrows 'for every input' (looked for: loops, veiled, ifaces, maps, wideKeys, modest, calm, conditions, laid).
  DERIVED. THE GIVEN ROWS OF THIS SEAT. 9 by the template 'for every input the law returns true; each argument reads behind the call as it read before'; 0 by the template 'total and deterministic' (their statements: YtpnlbacfofdibaaTotals.lean).
  GIVEN WITH THE SEED: the statements are not yours to turn. If you find one false, say at which input.
  Laid BY PROGRAM, IN A SANDBOX (cutbox-rows.mjs): the forced cells as the released guide's own fill.sh prints them over the translation f84a41008014bc1a… (all of the seat's roots in one cut). By AI agents, Wed Nov 11 2026. No macro, syntax, notation, axiom, sorry.
-/
import Derived.Test.YtpnlbacfofdibaaChecked
import GoSem.Claim
import GoSem.ClaimJoined
import GoSem.ClaimMapViews
import Derived.JoinedTies
import Derived.KernelRfl
namespace Go.Proofs.Ytpnlbacfofdibaa
/- THE CELL 'sum', in the pinned program and in every row, IS THE sha256 OF THE DUMP (.gsa) THAT YtpnlbacfofdibaaProg.lean LOADS. Nothing in Lean hashes anything: it is a label: what it is worth is what the hold of that sum in a sandbox is worth. -/
noncomputable def Try.pinned : Pinned := { name := "ytpnlbacfofdibaa", sum := "f84a41008014bc1ac5fd5357b8ee6fb22afac469c48d0ac1ec6e186939786a89", checked := Try.checked }
namespace Rows
def none {H : Type} : Left H := { results := [], args := [] }

/-- 'laws.FnExactReadingsOf': WHATEVER THE INPUT: true; the input reads as it did. -/
def fnExactReadingsOfSpec : ChangeSpec := { name := "fnExactReadingsOf", fn := fun _ => fun
  | [d1, d2] => { results := [.lit (.bool true)], args := [d1, d2] }
  | _ => none }
def fnExactReadingsOfRow : OpenClaim := { program := "ytpnlbacfofdibaa", sum := "f84a41008014bc1ac5fd5357b8ee6fb22afac469c48d0ac1ec6e186939786a89", func := "loop.example/g01254/laws.FnExactReadingsOf", spec := "fnExactReadingsOf", unfollowed := true, recurses := true, apart := false }
def FnExactReadingsOfSaid : Prop := fnExactReadingsOfRow.holds Try.pinned (OpenSpec.ofChange fnExactReadingsOfSpec)

/-- ITS FALSE NEIGHBOUR: 'it returns false'. Refute it at one input. -/
def fnExactReadingsOfWrong : ChangeSpec := { name := "fnExactReadingsOf", fn := fun _ => fun
  | [d1, d2] => { results := [.lit (.bool false)], args := [d1, d2] }
  | _ => none }
def FnExactReadingsOfWrongFalsely : Prop := fnExactReadingsOfRow.holds Try.pinned (OpenSpec.ofChange fnExactReadingsOfWrong)

/-- 'laws.FnExactCountHabits': WHATEVER THE INPUT: true; the input reads as it did. -/
def fnExactCountHabitsSpec : ChangeSpec := { name := "fnExactCountHabits", fn := fun _ => fun
  | [d1, d2] => { results := [.lit (.bool true)], args := [d1, d2] }
  | _ => none }
def fnExactCountHabitsRow : OpenClaim := { program := "ytpnlbacfofdibaa", sum := "f84a41008014bc1ac5fd5357b8ee6fb22afac469c48d0ac1ec6e186939786a89", func := "loop.example/g01254/laws.FnExactCountHabits", spec := "fnExactCountHabits", unfollowed := true, recurses := true, apart := false }
def FnExactCountHabitsSaid : Prop := fnExactCountHabitsRow.holds Try.pinned (OpenSpec.ofChange fnExactCountHabitsSpec)

/-- ITS FALSE NEIGHBOUR: 'it returns false'. Refute it at one input. -/
def fnExactCountHabitsWrong : ChangeSpec := { name := "fnExactCountHabits", fn := fun _ => fun
  | [d1, d2] => { results := [.lit (.bool false)], args := [d1, d2] }
  | _ => none }
def FnExactCountHabitsWrongFalsely : Prop := fnExactCountHabitsRow.holds Try.pinned (OpenSpec.ofChange fnExactCountHabitsWrong)

/-- 'laws.FnExactHabitOf': WHATEVER THE INPUT: true; the input reads as it did. -/
def fnExactHabitOfSpec : ChangeSpec := { name := "fnExactHabitOf", fn := fun _ => fun
  | [d1, d2] => { results := [.lit (.bool true)], args := [d1, d2] }
  | _ => none }
def fnExactHabitOfRow : OpenClaim := { program := "ytpnlbacfofdibaa", sum := "f84a41008014bc1ac5fd5357b8ee6fb22afac469c48d0ac1ec6e186939786a89", func := "loop.example/g01254/laws.FnExactHabitOf", spec := "fnExactHabitOf", unfollowed := true, recurses := true, apart := false }
def FnExactHabitOfSaid : Prop := fnExactHabitOfRow.holds Try.pinned (OpenSpec.ofChange fnExactHabitOfSpec)

/-- ITS FALSE NEIGHBOUR: 'it returns false'. Refute it at one input. -/
def fnExactHabitOfWrong : ChangeSpec := { name := "fnExactHabitOf", fn := fun _ => fun
  | [d1, d2] => { results := [.lit (.bool false)], args := [d1, d2] }
  | _ => none }
def FnExactHabitOfWrongFalsely : Prop := fnExactHabitOfRow.holds Try.pinned (OpenSpec.ofChange fnExactHabitOfWrong)

/-- 'laws.FnExactCorrectReadings': WHATEVER THE INPUT: true; the input reads as it did. -/
def fnExactCorrectReadingsSpec : ChangeSpec := { name := "fnExactCorrectReadings", fn := fun _ => fun
  | [d1, d2] => { results := [.lit (.bool true)], args := [d1, d2] }
  | _ => none }
def fnExactCorrectReadingsRow : OpenClaim := { program := "ytpnlbacfofdibaa", sum := "f84a41008014bc1ac5fd5357b8ee6fb22afac469c48d0ac1ec6e186939786a89", func := "loop.example/g01254/laws.FnExactCorrectReadings", spec := "fnExactCorrectReadings", unfollowed := true, recurses := true, apart := false }
def FnExactCorrectReadingsSaid : Prop := fnExactCorrectReadingsRow.holds Try.pinned (OpenSpec.ofChange fnExactCorrectReadingsSpec)

/-- ITS FALSE NEIGHBOUR: 'it returns false'. Refute it at one input. -/
def fnExactCorrectReadingsWrong : ChangeSpec := { name := "fnExactCorrectReadings", fn := fun _ => fun
  | [d1, d2] => { results := [.lit (.bool false)], args := [d1, d2] }
  | _ => none }
def FnExactCorrectReadingsWrongFalsely : Prop := fnExactCorrectReadingsRow.holds Try.pinned (OpenSpec.ofChange fnExactCorrectReadingsWrong)

/-- 'laws.FnExactNearestReader': WHATEVER THE INPUT: true; the input reads as it did. -/
def fnExactNearestReaderSpec : ChangeSpec := { name := "fnExactNearestReader", fn := fun _ => fun
  | [d1, d2, d3] => { results := [.lit (.bool true)], args := [d1, d2, d3] }
  | _ => none }
def fnExactNearestReaderRow : OpenClaim := { program := "ytpnlbacfofdibaa", sum := "f84a41008014bc1ac5fd5357b8ee6fb22afac469c48d0ac1ec6e186939786a89", func := "loop.example/g01254/laws.FnExactNearestReader", spec := "fnExactNearestReader", unfollowed := true, recurses := true, apart := false }
def FnExactNearestReaderSaid : Prop := fnExactNearestReaderRow.holds Try.pinned (OpenSpec.ofChange fnExactNearestReaderSpec)

/-- ITS FALSE NEIGHBOUR: 'it returns false'. Refute it at one input. -/
def fnExactNearestReaderWrong : ChangeSpec := { name := "fnExactNearestReader", fn := fun _ => fun
  | [d1, d2, d3] => { results := [.lit (.bool false)], args := [d1, d2, d3] }
  | _ => none }
def FnExactNearestReaderWrongFalsely : Prop := fnExactNearestReaderRow.holds Try.pinned (OpenSpec.ofChange fnExactNearestReaderWrong)

/-- 'laws.FnExactValueFrom': WHATEVER THE INPUT: true; the input reads as it did. -/
def fnExactValueFromSpec : ChangeSpec := { name := "fnExactValueFrom", fn := fun _ => fun
  | [d1, d2] => { results := [.lit (.bool true)], args := [d1, d2] }
  | _ => none }
def fnExactValueFromRow : OpenClaim := { program := "ytpnlbacfofdibaa", sum := "f84a41008014bc1ac5fd5357b8ee6fb22afac469c48d0ac1ec6e186939786a89", func := "loop.example/g01254/laws.FnExactValueFrom", spec := "fnExactValueFrom", unfollowed := true, recurses := true, apart := false }
def FnExactValueFromSaid : Prop := fnExactValueFromRow.holds Try.pinned (OpenSpec.ofChange fnExactValueFromSpec)

/-- ITS FALSE NEIGHBOUR: 'it returns false'. Refute it at one input. -/
def fnExactValueFromWrong : ChangeSpec := { name := "fnExactValueFrom", fn := fun _ => fun
  | [d1, d2] => { results := [.lit (.bool false)], args := [d1, d2] }
  | _ => none }
def FnExactValueFromWrongFalsely : Prop := fnExactValueFromRow.holds Try.pinned (OpenSpec.ofChange fnExactValueFromWrong)

/-- 'laws.FnExactWhoRead': WHATEVER THE INPUT: true; the input reads as it did. -/
def fnExactWhoReadSpec : ChangeSpec := { name := "fnExactWhoRead", fn := fun _ => fun
  | [d1, d2, d3] => { results := [.lit (.bool true)], args := [d1, d2, d3] }
  | _ => none }
def fnExactWhoReadRow : OpenClaim := { program := "ytpnlbacfofdibaa", sum := "f84a41008014bc1ac5fd5357b8ee6fb22afac469c48d0ac1ec6e186939786a89", func := "loop.example/g01254/laws.FnExactWhoRead", spec := "fnExactWhoRead", unfollowed := true, recurses := true, apart := false }
def FnExactWhoReadSaid : Prop := fnExactWhoReadRow.holds Try.pinned (OpenSpec.ofChange fnExactWhoReadSpec)

/-- ITS FALSE NEIGHBOUR: 'it returns false'. Refute it at one input. -/
def fnExactWhoReadWrong : ChangeSpec := { name := "fnExactWhoRead", fn := fun _ => fun
  | [d1, d2, d3] => { results := [.lit (.bool false)], args := [d1, d2, d3] }
  | _ => none }
def FnExactWhoReadWrongFalsely : Prop := fnExactWhoReadRow.holds Try.pinned (OpenSpec.ofChange fnExactWhoReadWrong)

/-- 'laws.FnPeople': WHATEVER THE INPUT: true; the input reads as it did. -/
def fnPeopleSpec : ChangeSpec := { name := "fnPeople", fn := fun _ => fun
  | [d1, d2] => { results := [.lit (.bool true)], args := [d1, d2] }
  | _ => none }
def fnPeopleRow : OpenClaim := { program := "ytpnlbacfofdibaa", sum := "f84a41008014bc1ac5fd5357b8ee6fb22afac469c48d0ac1ec6e186939786a89", func := "loop.example/g01254/laws.FnPeople", spec := "fnPeople", unfollowed := true, recurses := true, apart := false }
def FnPeopleSaid : Prop := fnPeopleRow.holds Try.pinned (OpenSpec.ofChange fnPeopleSpec)

/-- ITS FALSE NEIGHBOUR: 'it returns false'. Refute it at one input. -/
def fnPeopleWrong : ChangeSpec := { name := "fnPeople", fn := fun _ => fun
  | [d1, d2] => { results := [.lit (.bool false)], args := [d1, d2] }
  | _ => none }
def FnPeopleWrongFalsely : Prop := fnPeopleRow.holds Try.pinned (OpenSpec.ofChange fnPeopleWrong)

/-- 'laws.FnEveryValue': WHATEVER THE INPUT: true; the input reads as it did. -/
def fnEveryValueSpec : ChangeSpec := { name := "fnEveryValue", fn := fun _ => fun
  | [d1, d2] => { results := [.lit (.bool true)], args := [d1, d2] }
  | _ => none }
def fnEveryValueRow : OpenClaim := { program := "ytpnlbacfofdibaa", sum := "f84a41008014bc1ac5fd5357b8ee6fb22afac469c48d0ac1ec6e186939786a89", func := "loop.example/g01254/laws.FnEveryValue", spec := "fnEveryValue", unfollowed := true, recurses := true, apart := false }
def FnEveryValueSaid : Prop := fnEveryValueRow.holds Try.pinned (OpenSpec.ofChange fnEveryValueSpec)

/-- ITS FALSE NEIGHBOUR: 'it returns false'. Refute it at one input. -/
def fnEveryValueWrong : ChangeSpec := { name := "fnEveryValue", fn := fun _ => fun
  | [d1, d2] => { results := [.lit (.bool false)], args := [d1, d2] }
  | _ => none }
def FnEveryValueWrongFalsely : Prop := fnEveryValueRow.holds Try.pinned (OpenSpec.ofChange fnEveryValueWrong)

/- THE SECOND FORM. 'bulk': how many values and letters a reading holds, each counted each time it is reached (what is shared counts as often as it is met; a slice's spare places count too). A statement '..UptoSaid' is the law's where the arguments, and the package variables that the reading takes, are together of bulk at most 1048576: NARROWER than '..Said'. Prove '..Said' where nothing that the law and all that it calls make is longer than what came in: it says more and counts as full. Else prove '..UptoSaid'. A law counts once. -/
mutual
def uptoBulk {H : Type} : DataW H → Nat
  | .lit (.string bytes) => bytes.length + 1
  | .lit _ => 1
  | .nil => 1
  | .ptr d => uptoBulk d + 1
  | .slice elems spare => uptoBulkAll elems + uptoBulkAll spare + 1
  | .agg parts => uptoBulkAll parts + 1
  | .iface _ d => uptoBulk d + 1
  | .map entries => uptoBulkEntries entries + 1
  | .held _ => 1
def uptoBulkAll {H : Type} : List (DataW H) → Nat
  | [] => 0
  | d :: r => uptoBulk d + uptoBulkAll r
def uptoBulkEntries {H : Type} : List (Lit × DataW H) → Nat
  | [] => 0
  | x :: r => uptoBulkEntry x + uptoBulkEntries r
def uptoBulkEntry {H : Type} : Lit × DataW H → Nat
  | (.string bytes, d) => bytes.length + uptoBulk d + 1
  | (_, d) => uptoBulk d + 1
 end
def uptoSmall : (H : Type) → List (DataW H) → Bool := fun _ ds => decide (uptoBulkAll ds ≤ 1048576)
def OpenSpec.upto (s : _root_.Go.ChangeSpec) : _root_.Go.OpenSpec := { _root_.Go.OpenSpec.ofChange s with cond := some uptoSmall }

/-- 'laws.FnExactReadingsOf', WHERE WHAT IT READS IS OF BULK AT MOST 1048576: true; the input reads as it did. -/
def fnExactReadingsOfUptoRow : OpenClaim := { program := "ytpnlbacfofdibaa", sum := "f84a41008014bc1ac5fd5357b8ee6fb22afac469c48d0ac1ec6e186939786a89", func := "loop.example/g01254/laws.FnExactReadingsOf", spec := "fnExactReadingsOf", unfollowed := true, recurses := true, apart := false, narrowed := true }
def FnExactReadingsOfUptoSaid : Prop := fnExactReadingsOfUptoRow.holds Try.pinned (OpenSpec.upto fnExactReadingsOfSpec)

/-- 'laws.FnExactCountHabits', WHERE WHAT IT READS IS OF BULK AT MOST 1048576: true; the input reads as it did. -/
def fnExactCountHabitsUptoRow : OpenClaim := { program := "ytpnlbacfofdibaa", sum := "f84a41008014bc1ac5fd5357b8ee6fb22afac469c48d0ac1ec6e186939786a89", func := "loop.example/g01254/laws.FnExactCountHabits", spec := "fnExactCountHabits", unfollowed := true, recurses := true, apart := false, narrowed := true }
def FnExactCountHabitsUptoSaid : Prop := fnExactCountHabitsUptoRow.holds Try.pinned (OpenSpec.upto fnExactCountHabitsSpec)

/-- 'laws.FnExactHabitOf', WHERE WHAT IT READS IS OF BULK AT MOST 1048576: true; the input reads as it did. -/
def fnExactHabitOfUptoRow : OpenClaim := { program := "ytpnlbacfofdibaa", sum := "f84a41008014bc1ac5fd5357b8ee6fb22afac469c48d0ac1ec6e186939786a89", func := "loop.example/g01254/laws.FnExactHabitOf", spec := "fnExactHabitOf", unfollowed := true, recurses := true, apart := false, narrowed := true }
def FnExactHabitOfUptoSaid : Prop := fnExactHabitOfUptoRow.holds Try.pinned (OpenSpec.upto fnExactHabitOfSpec)

/-- 'laws.FnExactCorrectReadings', WHERE WHAT IT READS IS OF BULK AT MOST 1048576: true; the input reads as it did. -/
def fnExactCorrectReadingsUptoRow : OpenClaim := { program := "ytpnlbacfofdibaa", sum := "f84a41008014bc1ac5fd5357b8ee6fb22afac469c48d0ac1ec6e186939786a89", func := "loop.example/g01254/laws.FnExactCorrectReadings", spec := "fnExactCorrectReadings", unfollowed := true, recurses := true, apart := false, narrowed := true }
def FnExactCorrectReadingsUptoSaid : Prop := fnExactCorrectReadingsUptoRow.holds Try.pinned (OpenSpec.upto fnExactCorrectReadingsSpec)

/-- 'laws.FnExactNearestReader', WHERE WHAT IT READS IS OF BULK AT MOST 1048576: true; the input reads as it did. -/
def fnExactNearestReaderUptoRow : OpenClaim := { program := "ytpnlbacfofdibaa", sum := "f84a41008014bc1ac5fd5357b8ee6fb22afac469c48d0ac1ec6e186939786a89", func := "loop.example/g01254/laws.FnExactNearestReader", spec := "fnExactNearestReader", unfollowed := true, recurses := true, apart := false, narrowed := true }
def FnExactNearestReaderUptoSaid : Prop := fnExactNearestReaderUptoRow.holds Try.pinned (OpenSpec.upto fnExactNearestReaderSpec)

/-- 'laws.FnExactValueFrom', WHERE WHAT IT READS IS OF BULK AT MOST 1048576: true; the input reads as it did. -/
def fnExactValueFromUptoRow : OpenClaim := { program := "ytpnlbacfofdibaa", sum := "f84a41008014bc1ac5fd5357b8ee6fb22afac469c48d0ac1ec6e186939786a89", func := "loop.example/g01254/laws.FnExactValueFrom", spec := "fnExactValueFrom", unfollowed := true, recurses := true, apart := false, narrowed := true }
def FnExactValueFromUptoSaid : Prop := fnExactValueFromUptoRow.holds Try.pinned (OpenSpec.upto fnExactValueFromSpec)

/-- 'laws.FnExactWhoRead', WHERE WHAT IT READS IS OF BULK AT MOST 1048576: true; the input reads as it did. -/
def fnExactWhoReadUptoRow : OpenClaim := { program := "ytpnlbacfofdibaa", sum := "f84a41008014bc1ac5fd5357b8ee6fb22afac469c48d0ac1ec6e186939786a89", func := "loop.example/g01254/laws.FnExactWhoRead", spec := "fnExactWhoRead", unfollowed := true, recurses := true, apart := false, narrowed := true }
def FnExactWhoReadUptoSaid : Prop := fnExactWhoReadUptoRow.holds Try.pinned (OpenSpec.upto fnExactWhoReadSpec)

/-- 'laws.FnPeople', WHERE WHAT IT READS IS OF BULK AT MOST 1048576: true; the input reads as it did. -/
def fnPeopleUptoRow : OpenClaim := { program := "ytpnlbacfofdibaa", sum := "f84a41008014bc1ac5fd5357b8ee6fb22afac469c48d0ac1ec6e186939786a89", func := "loop.example/g01254/laws.FnPeople", spec := "fnPeople", unfollowed := true, recurses := true, apart := false, narrowed := true }
def FnPeopleUptoSaid : Prop := fnPeopleUptoRow.holds Try.pinned (OpenSpec.upto fnPeopleSpec)

/-- 'laws.FnEveryValue', WHERE WHAT IT READS IS OF BULK AT MOST 1048576: true; the input reads as it did. -/
def fnEveryValueUptoRow : OpenClaim := { program := "ytpnlbacfofdibaa", sum := "f84a41008014bc1ac5fd5357b8ee6fb22afac469c48d0ac1ec6e186939786a89", func := "loop.example/g01254/laws.FnEveryValue", spec := "fnEveryValue", unfollowed := true, recurses := true, apart := false, narrowed := true }
def FnEveryValueUptoSaid : Prop := fnEveryValueUptoRow.holds Try.pinned (OpenSpec.upto fnEveryValueSpec)

end Rows
end Go.Proofs.Ytpnlbacfofdibaa
