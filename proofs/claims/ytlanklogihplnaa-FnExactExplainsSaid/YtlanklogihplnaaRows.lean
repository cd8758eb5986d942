/-
  No cell of these rows narrows 'for every input' (looked for: loops, veiled, ifaces, maps, wideKeys, modest, calm, conditions, laid).
  DERIVED. THE GIVEN ROWS OF THIS SEAT. 8 by the template 'for every input the law returns true; each argument reads behind the call as it read before'; 0 by the template 'total and deterministic' (their statements: YtlanklogihplnaaTotals.lean).
  GIVEN WITH THE SEED: the statements are not yours to turn. If you find one false, say at which input.
  Laid BY PROGRAM, IN A SANDBOX (cutbox-rows.mjs): the forced cells as the released guide's own fill.sh prints them over the translation 7b1e3bb31b83574e… (all of the seat's roots in one cut). By AI agents, Wed Nov 11 2026. No macro, syntax, notation, axiom, sorry.
-/
import Derived.Test.YtlanklogihplnaaChecked
import GoSem.Claim
import GoSem.ClaimJoined
import GoSem.ClaimMapViews
import Derived.JoinedTies
import Derived.KernelRfl
namespace Go.Proofs.Ytlanklogihplnaa
/- THE CELL 'sum', in the pinned program and in every row, IS THE sha256 OF THE DUMP (.gsa) THAT YtlanklogihplnaaProg.lean LOADS. Nothing in Lean hashes anything: it is a label: what it is worth is what the hold of that sum in a sandbox is worth. -/
noncomputable def Try.pinned : Pinned := { name := "ytlanklogihplnaa", sum := "7b1e3bb31b83574e59fb5100c68268c48f1d0e17d62cbb87c0ca7937bb63052f", checked := Try.checked }
namespace Rows
def none {H : Type} : Left H := { results := [], args := [] }

/-- 'laws.FnExactLastDigits': WHATEVER THE INPUT: true; the input reads as it did. -/
def fnExactLastDigitsSpec : ChangeSpec := { name := "fnExactLastDigits", fn := fun _ => fun
  | [d] => { results := [.lit (.bool true)], args := [d] }
  | _ => none }
def fnExactLastDigitsRow : OpenClaim := { program := "ytlanklogihplnaa", sum := "7b1e3bb31b83574e59fb5100c68268c48f1d0e17d62cbb87c0ca7937bb63052f", func := "loop.example/g01254/laws.FnExactLastDigits", spec := "fnExactLastDigits", unfollowed := true, recurses := true, apart := false }
def FnExactLastDigitsSaid : Prop := fnExactLastDigitsRow.holds Try.pinned (OpenSpec.ofChange fnExactLastDigitsSpec)

/-- ITS FALSE NEIGHBOUR: 'it returns false'. Refute it at one input. -/
def fnExactLastDigitsWrong : ChangeSpec := { name := "fnExactLastDigits", fn := fun _ => fun
  | [d] => { results := [.lit (.bool false)], args := [d] }
  | _ => none }
def FnExactLastDigitsWrongFalsely : Prop := fnExactLastDigitsRow.holds Try.pinned (OpenSpec.ofChange fnExactLastDigitsWrong)

/-- 'laws.FnExactUnitSeen': WHATEVER THE INPUT: true; the input reads as it did. -/
def fnExactUnitSeenSpec : ChangeSpec := { name := "fnExactUnitSeen", fn := fun _ => fun
  | [d] => { results := [.lit (.bool true)], args := [d] }
  | _ => none }
def fnExactUnitSeenRow : OpenClaim := { program := "ytlanklogihplnaa", sum := "7b1e3bb31b83574e59fb5100c68268c48f1d0e17d62cbb87c0ca7937bb63052f", func := "loop.example/g01254/laws.FnExactUnitSeen", spec := "fnExactUnitSeen", unfollowed := true, recurses := true, apart := false }
def FnExactUnitSeenSaid : Prop := fnExactUnitSeenRow.holds Try.pinned (OpenSpec.ofChange fnExactUnitSeenSpec)

/-- ITS FALSE NEIGHBOUR: 'it returns false'. Refute it at one input. -/
def fnExactUnitSeenWrong : ChangeSpec := { name := "fnExactUnitSeen", fn := fun _ => fun
  | [d] => { results := [.lit (.bool false)], args := [d] }
  | _ => none }
def FnExactUnitSeenWrongFalsely : Prop := fnExactUnitSeenRow.holds Try.pinned (OpenSpec.ofChange fnExactUnitSeenWrong)

/-- 'laws.FnExactLikedDigit': WHATEVER THE INPUT: true; the input reads as it did. -/
def fnExactLikedDigitSpec : ChangeSpec := { name := "fnExactLikedDigit", fn := fun _ => fun
  | [d] => { results := [.lit (.bool true)], args := [d] }
  | _ => none }
def fnExactLikedDigitRow : OpenClaim := { program := "ytlanklogihplnaa", sum := "7b1e3bb31b83574e59fb5100c68268c48f1d0e17d62cbb87c0ca7937bb63052f", func := "loop.example/g01254/laws.FnExactLikedDigit", spec := "fnExactLikedDigit", unfollowed := true, recurses := true, apart := false }
def FnExactLikedDigitSaid : Prop := fnExactLikedDigitRow.holds Try.pinned (OpenSpec.ofChange fnExactLikedDigitSpec)

/-- ITS FALSE NEIGHBOUR: 'it returns false'. Refute it at one input. -/
def fnExactLikedDigitWrong : ChangeSpec := { name := "fnExactLikedDigit", fn := fun _ => fun
  | [d] => { results := [.lit (.bool false)], args := [d] }
  | _ => none }
def FnExactLikedDigitWrongFalsely : Prop := fnExactLikedDigitRow.holds Try.pinned (OpenSpec.ofChange fnExactLikedDigitWrong)

/-- 'laws.FnExactStretchOf': WHATEVER THE INPUT: true; the input reads as it did. -/
def fnExactStretchOfSpec : ChangeSpec := { name := "fnExactStretchOf", fn := fun _ => fun
  | [d1, d2] => { results := [.lit (.bool true)], args := [d1, d2] }
  | _ => none }
def fnExactStretchOfRow : OpenClaim := { program := "ytlanklogihplnaa", sum := "7b1e3bb31b83574e59fb5100c68268c48f1d0e17d62cbb87c0ca7937bb63052f", func := "loop.example/g01254/laws.FnExactStretchOf", spec := "fnExactStretchOf", unfollowed := true, recurses := true, apart := false }
def FnExactStretchOfSaid : Prop := fnExactStretchOfRow.holds Try.pinned (OpenSpec.ofChange fnExactStretchOfSpec)

/-- ITS FALSE NEIGHBOUR: 'it returns false'. Refute it at one input. -/
def fnExactStretchOfWrong : ChangeSpec := { name := "fnExactStretchOf", fn := fun _ => fun
  | [d1, d2] => { results := [.lit (.bool false)], args := [d1, d2] }
  | _ => none }
def FnExactStretchOfWrongFalsely : Prop := fnExactStretchOfRow.holds Try.pinned (OpenSpec.ofChange fnExactStretchOfWrong)

/-- 'laws.FnExactReadingOf': WHATEVER THE INPUT: true; the input reads as it did. -/
def fnExactReadingOfSpec : ChangeSpec := { name := "fnExactReadingOf", fn := fun _ => fun
  | [d1, d2] => { results := [.lit (.bool true)], args := [d1, d2] }
  | _ => none }
def fnExactReadingOfRow : OpenClaim := { program := "ytlanklogihplnaa", sum := "7b1e3bb31b83574e59fb5100c68268c48f1d0e17d62cbb87c0ca7937bb63052f", func := "loop.example/g01254/laws.FnExactReadingOf", spec := "fnExactReadingOf", apart := false }
def FnExactReadingOfSaid : Prop := fnExactReadingOfRow.holds Try.pinned (OpenSpec.ofChange fnExactReadingOfSpec)

/-- ITS FALSE NEIGHBOUR: 'it returns false'. Refute it at one input. -/
def fnExactReadingOfWrong : ChangeSpec := { name := "fnExactReadingOf", fn := fun _ => fun
  | [d1, d2] => { results := [.lit (.bool false)], args := [d1, d2] }
  | _ => none }
def FnExactReadingOfWrongFalsely : Prop := fnExactReadingOfRow.holds Try.pinned (OpenSpec.ofChange fnExactReadingOfWrong)

/-- 'laws.FnExactMeanDifference': WHATEVER THE INPUT: true; the input reads as it did. -/
def fnExactMeanDifferenceSpec : ChangeSpec := { name := "fnExactMeanDifference", fn := fun _ => fun
  | [d1, d2] => { results := [.lit (.bool true)], args := [d1, d2] }
  | _ => none }
def fnExactMeanDifferenceRow : OpenClaim := { program := "ytlanklogihplnaa", sum := "7b1e3bb31b83574e59fb5100c68268c48f1d0e17d62cbb87c0ca7937bb63052f", func := "loop.example/g01254/laws.FnExactMeanDifference", spec := "fnExactMeanDifference", unfollowed := true, recurses := true, apart := false }
def FnExactMeanDifferenceSaid : Prop := fnExactMeanDifferenceRow.holds Try.pinned (OpenSpec.ofChange fnExactMeanDifferenceSpec)

/-- ITS FALSE NEIGHBOUR: 'it returns false'. Refute it at one input. -/
def fnExactMeanDifferenceWrong : ChangeSpec := { name := "fnExactMeanDifference", fn := fun _ => fun
  | [d1, d2] => { results := [.lit (.bool false)], args := [d1, d2] }
  | _ => none }
def FnExactMeanDifferenceWrongFalsely : Prop := fnExactMeanDifferenceRow.holds Try.pinned (OpenSpec.ofChange fnExactMeanDifferenceWrong)

/-- 'laws.FnExactReadingsOf': WHATEVER THE INPUT: true; the input reads as it did. -/
def fnExactReadingsOfSpec : ChangeSpec := { name := "fnExactReadingsOf", fn := fun _ => fun
  | [d1, d2] => { results := [.lit (.bool true)], args := [d1, d2] }
  | _ => none }
def fnExactReadingsOfRow : OpenClaim := { program := "ytlanklogihplnaa", sum := "7b1e3bb31b83574e59fb5100c68268c48f1d0e17d62cbb87c0ca7937bb63052f", func := "loop.example/g01254/laws.FnExactReadingsOf", spec := "fnExactReadingsOf", unfollowed := true, recurses := true, apart := false }
def FnExactReadingsOfSaid : Prop := fnExactReadingsOfRow.holds Try.pinned (OpenSpec.ofChange fnExactReadingsOfSpec)

/-- ITS FALSE NEIGHBOUR: 'it returns false'. Refute it at one input. -/
def fnExactReadingsOfWrong : ChangeSpec := { name := "fnExactReadingsOf", fn := fun _ => fun
  | [d1, d2] => { results := [.lit (.bool false)], args := [d1, d2] }
  | _ => none }
def FnExactReadingsOfWrongFalsely : Prop := fnExactReadingsOfRow.holds Try.pinned (OpenSpec.ofChange fnExactReadingsOfWrong)

/-- 'laws.FnExactExplains': WHATEVER THE INPUT: true; the input reads as it did. -/
def fnExactExplainsSpec : ChangeSpec := { name := "fnExactExplains", fn := fun _ => fun
  | [d1, d2, d3] => { results := [.lit (.bool true)], args := [d1, d2, d3] }
  | _ => none }
def fnExactExplainsRow : OpenClaim := { program := "ytlanklogihplnaa", sum := "7b1e3bb31b83574e59fb5100c68268c48f1d0e17d62cbb87c0ca7937bb63052f", func := "loop.example/g01254/laws.FnExactExplains", spec := "fnExactExplains", unfollowed := true, recurses := true, apart := false }
def FnExactExplainsSaid : Prop := fnExactExplainsRow.holds Try.pinned (OpenSpec.ofChange fnExactExplainsSpec)

/-- ITS FALSE NEIGHBOUR: 'it returns false'. Refute it at one input. -/
def fnExactExplainsWrong : ChangeSpec := { name := "fnExactExplains", fn := fun _ => fun
  | [d1, d2, d3] => { results := [.lit (.bool false)], args := [d1, d2, d3] }
  | _ => none }
def FnExactExplainsWrongFalsely : Prop := fnExactExplainsRow.holds Try.pinned (OpenSpec.ofChange fnExactExplainsWrong)

/- THE SECOND FORM. 'bulk': how many values and letters a reading holds, each counted each time it is reached (what is shared counts as often as it is met; a slice's spare places count too). A statement '..UptoSaid' is the law's where the arguments, and the package variables that the reading takes, are together of bulk at most 1048576: NARROWER than '..Said'. Prove '..Said' where nothing that the law and all that it calls make is longer than what came in: it says more and counts as full. Else prove '..UptoSaid'. A law counts once. -/
mutual
def uptoBulk {H : Type} : DataW H → Nat
  | .lit (.string bytes) => bytes.length + 1
  | .lit _ => 1
  | .nil => 1
  | .ptr d => uptoBulk d + 1
  | .slice elems spare => uptoBulkAll elems + uptoBulkAll spare + 1
  | .agg parts => uptoBulkAll parts + 1
  | .iface _ d => uptoBulk d + 1
  | .map entries => uptoBulkEntries entries + 1
  | .held _ => 1
def uptoBulkAll {H : Type} : List (DataW H) → Nat
  | [] => 0
  | d :: r => uptoBulk d + uptoBulkAll r
def uptoBulkEntries {H : Type} : List (Lit × DataW H) → Nat
  | [] => 0
  | x :: r => uptoBulkEntry x + uptoBulkEntries r
def uptoBulkEntry {H : Type} : Lit × DataW H → Nat
  | (.string bytes, d) => bytes.length + uptoBulk d + 1
  | (_, d) => uptoBulk d + 1
 end
def uptoSmall : (H : Type) → List (DataW H) → Bool := fun _ ds => decide (uptoBulkAll ds ≤ 1048576)
def OpenSpec.upto (s : _root_.Go.ChangeSpec) : _root_.Go.OpenSpec := { _root_.Go.OpenSpec.ofChange s with cond := some uptoSmall }

/-- 'laws.FnExactLastDigits', WHERE WHAT IT READS IS OF BULK AT MOST 1048576: true; the input reads as it did. -/
def fnExactLastDigitsUptoRow : OpenClaim := { program := "ytlanklogihplnaa", sum := "7b1e3bb31b83574e59fb5100c68268c48f1d0e17d62cbb87c0ca7937bb63052f", func := "loop.example/g01254/laws.FnExactLastDigits", spec := "fnExactLastDigits", unfollowed := true, recurses := true, apart := false, narrowed := true }
def FnExactLastDigitsUptoSaid : Prop := fnExactLastDigitsUptoRow.holds Try.pinned (OpenSpec.upto fnExactLastDigitsSpec)

/-- 'laws.FnExactUnitSeen', WHERE WHAT IT READS IS OF BULK AT MOST 1048576: true; the input reads as it did. -/
def fnExactUnitSeenUptoRow : OpenClaim := { program := "ytlanklogihplnaa", sum := "7b1e3bb31b83574e59fb5100c68268c48f1d0e17d62cbb87c0ca7937bb63052f", func := "loop.example/g01254/laws.FnExactUnitSeen", spec := "fnExactUnitSeen", unfollowed := true, recurses := true, apart := false, narrowed := true }
def FnExactUnitSeenUptoSaid : Prop := fnExactUnitSeenUptoRow.holds Try.pinned (OpenSpec.upto fnExactUnitSeenSpec)

/-- 'laws.FnExactLikedDigit', WHERE WHAT IT READS IS OF BULK AT MOST 1048576: true; the input reads as it did. -/
def fnExactLikedDigitUptoRow : OpenClaim := { program := "ytlanklogihplnaa", sum := "7b1e3bb31b83574e59fb5100c68268c48f1d0e17d62cbb87c0ca7937bb63052f", func := "loop.example/g01254/laws.FnExactLikedDigit", spec := "fnExactLikedDigit", unfollowed := true, recurses := true, apart := false, narrowed := true }
def FnExactLikedDigitUptoSaid : Prop := fnExactLikedDigitUptoRow.holds Try.pinned (OpenSpec.upto fnExactLikedDigitSpec)

/-- 'laws.FnExactStretchOf', WHERE WHAT IT READS IS OF BULK AT MOST 1048576: true; the input reads as it did. -/
def fnExactStretchOfUptoRow : OpenClaim := { program := "ytlanklogihplnaa", sum := "7b1e3bb31b83574e59fb5100c68268c48f1d0e17d62cbb87c0ca7937bb63052f", func := "loop.example/g01254/laws.FnExactStretchOf", spec := "fnExactStretchOf", unfollowed := true, recurses := true, apart := false, narrowed := true }
def FnExactStretchOfUptoSaid : Prop := fnExactStretchOfUptoRow.holds Try.pinned (OpenSpec.upto fnExactStretchOfSpec)

/-- 'laws.FnExactReadingOf', WHERE WHAT IT READS IS OF BULK AT MOST 1048576: true; the input reads as it did. -/
def fnExactReadingOfUptoRow : OpenClaim := { program := "ytlanklogihplnaa", sum := "7b1e3bb31b83574e59fb5100c68268c48f1d0e17d62cbb87c0ca7937bb63052f", func := "loop.example/g01254/laws.FnExactReadingOf", spec := "fnExactReadingOf", apart := false, narrowed := true }
def FnExactReadingOfUptoSaid : Prop := fnExactReadingOfUptoRow.holds Try.pinned (OpenSpec.upto fnExactReadingOfSpec)

/-- 'laws.FnExactMeanDifference', WHERE WHAT IT READS IS OF BULK AT MOST 1048576: true; the input reads as it did. -/
def fnExactMeanDifferenceUptoRow : OpenClaim := { program := "ytlanklogihplnaa", sum := "7b1e3bb31b83574e59fb5100c68268c48f1d0e17d62cbb87c0ca7937bb63052f", func := "loop.example/g01254/laws.FnExactMeanDifference", spec := "fnExactMeanDifference", unfollowed := true, recurses := true, apart := false, narrowed := true }
def FnExactMeanDifferenceUptoSaid : Prop := fnExactMeanDifferenceUptoRow.holds Try.pinned (OpenSpec.upto fnExactMeanDifferenceSpec)

/-- 'laws.FnExactReadingsOf', WHERE WHAT IT READS IS OF BULK AT MOST 1048576: true; the input reads as it did. -/
def fnExactReadingsOfUptoRow : OpenClaim := { program := "ytlanklogihplnaa", sum := "7b1e3bb31b83574e59fb5100c68268c48f1d0e17d62cbb87c0ca7937bb63052f", func := "loop.example/g01254/laws.FnExactReadingsOf", spec := "fnExactReadingsOf", unfollowed := true, recurses := true, apart := false, narrowed := true }
def FnExactReadingsOfUptoSaid : Prop := fnExactReadingsOfUptoRow.holds Try.pinned (OpenSpec.upto fnExactReadingsOfSpec)

/-- 'laws.FnExactExplains', WHERE WHAT IT READS IS OF BULK AT MOST 1048576: true; the input reads as it did. -/
def fnExactExplainsUptoRow : OpenClaim := { program := "ytlanklogihplnaa", sum := "7b1e3bb31b83574e59fb5100c68268c48f1d0e17d62cbb87c0ca7937bb63052f", func := "loop.example/g01254/laws.FnExactExplains", spec := "fnExactExplains", unfollowed := true, recurses := true, apart := false, narrowed := true }
def FnExactExplainsUptoSaid : Prop := fnExactExplainsUptoRow.holds Try.pinned (OpenSpec.upto fnExactExplainsSpec)

end Rows
end Go.Proofs.Ytlanklogihplnaa
