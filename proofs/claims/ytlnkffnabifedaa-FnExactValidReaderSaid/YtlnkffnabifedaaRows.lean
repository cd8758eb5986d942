/-
  No cell of these rows narrows 'for every input' (looked for: loops, veiled, ifaces, maps, wideKeys, modest, calm, conditions, laid).
  DERIVED. THE GIVEN ROWS OF THIS SEAT. 7 by the template 'for every input the law returns true; each argument reads behind the call as it read before'; 0 by the template 'total and deterministic' (their statements: YtlnkffnabifedaaTotals.lean).
  GIVEN WITH THE SEED: the statements are not yours to turn. If you find one false, say at which input.
  Laid BY PROGRAM, IN A SANDBOX (cutbox-rows.mjs): the forced cells as the released guide's own fill.sh prints them over the translation 5c956fed22d5b59b… (all of the seat's roots in one cut). By AI agents, Wed Nov 11 2026. No macro, syntax, notation, axiom, sorry.
-/
import Derived.Test.YtlnkffnabifedaaChecked
import GoSem.Claim
import GoSem.ClaimJoined
import GoSem.ClaimMapViews
import Derived.JoinedTies
import Derived.KernelRfl
namespace Go.Proofs.Ytlnkffnabifedaa
/- THE CELL 'sum', in the pinned program and in every row, IS THE sha256 OF THE DUMP (.gsa) THAT YtlnkffnabifedaaProg.lean LOADS. Nothing in Lean hashes anything: it is a label: what it is worth is what the hold of that sum in a sandbox is worth. -/
noncomputable def Try.pinned : Pinned := { name := "ytlnkffnabifedaa", sum := "5c956fed22d5b59b78e4813a97df47635b738f444ddf1334614a85ac3b1a2554", checked := Try.checked }
namespace Rows
def none {H : Type} : Left H := { results := [], args := [] }

/-- 'laws.FnExactValidReader': WHATEVER THE INPUT: true; the input reads as it did. -/
def fnExactValidReaderSpec : ChangeSpec := { name := "fnExactValidReader", fn := fun _ => fun
  | [d] => { results := [.lit (.bool true)], args := [d] }
  | _ => none }
def fnExactValidReaderRow : OpenClaim := { program := "ytlnkffnabifedaa", sum := "5c956fed22d5b59b78e4813a97df47635b738f444ddf1334614a85ac3b1a2554", func := "loop.example/g01254/laws.FnExactValidReader", spec := "fnExactValidReader", apart := false }
def FnExactValidReaderSaid : Prop := fnExactValidReaderRow.holds Try.pinned (OpenSpec.ofChange fnExactValidReaderSpec)

/-- ITS FALSE NEIGHBOUR: 'it returns false'. Refute it at one input. -/
def fnExactValidReaderWrong : ChangeSpec := { name := "fnExactValidReader", fn := fun _ => fun
  | [d] => { results := [.lit (.bool false)], args := [d] }
  | _ => none }
def FnExactValidReaderWrongFalsely : Prop := fnExactValidReaderRow.holds Try.pinned (OpenSpec.ofChange fnExactValidReaderWrong)

/-- 'laws.FnExactLastDigits': WHATEVER THE INPUT: true; the input reads as it did. -/
def fnExactLastDigitsSpec : ChangeSpec := { name := "fnExactLastDigits", fn := fun _ => fun
  | [d] => { results := [.lit (.bool true)], args := [d] }
  | _ => none }
def fnExactLastDigitsRow : OpenClaim := { program := "ytlnkffnabifedaa", sum := "5c956fed22d5b59b78e4813a97df47635b738f444ddf1334614a85ac3b1a2554", func := "loop.example/g01254/laws.FnExactLastDigits", spec := "fnExactLastDigits", unfollowed := true, recurses := true, apart := false }
def FnExactLastDigitsSaid : Prop := fnExactLastDigitsRow.holds Try.pinned (OpenSpec.ofChange fnExactLastDigitsSpec)

/-- ITS FALSE NEIGHBOUR: 'it returns false'. Refute it at one input. -/
def fnExactLastDigitsWrong : ChangeSpec := { name := "fnExactLastDigits", fn := fun _ => fun
  | [d] => { results := [.lit (.bool false)], args := [d] }
  | _ => none }
def FnExactLastDigitsWrongFalsely : Prop := fnExactLastDigitsRow.holds Try.pinned (OpenSpec.ofChange fnExactLastDigitsWrong)

/-- 'laws.FnExactUnitSeen': WHATEVER THE INPUT: true; the input reads as it did. -/
def fnExactUnitSeenSpec : ChangeSpec := { name := "fnExactUnitSeen", fn := fun _ => fun
  | [d] => { results := [.lit (.bool true)], args := [d] }
  | _ => none }
def fnExactUnitSeenRow : OpenClaim := { program := "ytlnkffnabifedaa", sum := "5c956fed22d5b59b78e4813a97df47635b738f444ddf1334614a85ac3b1a2554", func := "loop.example/g01254/laws.FnExactUnitSeen", spec := "fnExactUnitSeen", unfollowed := true, recurses := true, apart := false }
def FnExactUnitSeenSaid : Prop := fnExactUnitSeenRow.holds Try.pinned (OpenSpec.ofChange fnExactUnitSeenSpec)

/-- ITS FALSE NEIGHBOUR: 'it returns false'. Refute it at one input. -/
def fnExactUnitSeenWrong : ChangeSpec := { name := "fnExactUnitSeen", fn := fun _ => fun
  | [d] => { results := [.lit (.bool false)], args := [d] }
  | _ => none }
def FnExactUnitSeenWrongFalsely : Prop := fnExactUnitSeenRow.holds Try.pinned (OpenSpec.ofChange fnExactUnitSeenWrong)

/-- 'laws.FnExactLikedDigit': WHATEVER THE INPUT: true; the input reads as it did. -/
def fnExactLikedDigitSpec : ChangeSpec := { name := "fnExactLikedDigit", fn := fun _ => fun
  | [d] => { results := [.lit (.bool true)], args := [d] }
  | _ => none }
def fnExactLikedDigitRow : OpenClaim := { program := "ytlnkffnabifedaa", sum := "5c956fed22d5b59b78e4813a97df47635b738f444ddf1334614a85ac3b1a2554", func := "loop.example/g01254/laws.FnExactLikedDigit", spec := "fnExactLikedDigit", unfollowed := true, recurses := true, apart := false }
def FnExactLikedDigitSaid : Prop := fnExactLikedDigitRow.holds Try.pinned (OpenSpec.ofChange fnExactLikedDigitSpec)

/-- ITS FALSE NEIGHBOUR: 'it returns false'. Refute it at one input. -/
def fnExactLikedDigitWrong : ChangeSpec := { name := "fnExactLikedDigit", fn := fun _ => fun
  | [d] => { results := [.lit (.bool false)], args := [d] }
  | _ => none }
def FnExactLikedDigitWrongFalsely : Prop := fnExactLikedDigitRow.holds Try.pinned (OpenSpec.ofChange fnExactLikedDigitWrong)

/-- 'laws.FnExactStretchOf': WHATEVER THE INPUT: true; the input reads as it did. -/
def fnExactStretchOfSpec : ChangeSpec := { name := "fnExactStretchOf", fn := fun _ => fun
  | [d1, d2] => { results := [.lit (.bool true)], args := [d1, d2] }
  | _ => none }
def fnExactStretchOfRow : OpenClaim := { program := "ytlnkffnabifedaa", sum := "5c956fed22d5b59b78e4813a97df47635b738f444ddf1334614a85ac3b1a2554", func := "loop.example/g01254/laws.FnExactStretchOf", spec := "fnExactStretchOf", unfollowed := true, recurses := true, apart := false }
def FnExactStretchOfSaid : Prop := fnExactStretchOfRow.holds Try.pinned (OpenSpec.ofChange fnExactStretchOfSpec)

/-- ITS FALSE NEIGHBOUR: 'it returns false'. Refute it at one input. -/
def fnExactStretchOfWrong : ChangeSpec := { name := "fnExactStretchOf", fn := fun _ => fun
  | [d1, d2] => { results := [.lit (.bool false)], args := [d1, d2] }
  | _ => none }
def FnExactStretchOfWrongFalsely : Prop := fnExactStretchOfRow.holds Try.pinned (OpenSpec.ofChange fnExactStretchOfWrong)

/-- 'laws.FnExactReadingOf': WHATEVER THE INPUT: true; the input reads as it did. -/
def fnExactReadingOfSpec : ChangeSpec := { name := "fnExactReadingOf", fn := fun _ => fun
  | [d1, d2] => { results := [.lit (.bool true)], args := [d1, d2] }
  | _ => none }
def fnExactReadingOfRow : OpenClaim := { program := "ytlnkffnabifedaa", sum := "5c956fed22d5b59b78e4813a97df47635b738f444ddf1334614a85ac3b1a2554", func := "loop.example/g01254/laws.FnExactReadingOf", spec := "fnExactReadingOf", apart := false }
def FnExactReadingOfSaid : Prop := fnExactReadingOfRow.holds Try.pinned (OpenSpec.ofChange fnExactReadingOfSpec)

/-- ITS FALSE NEIGHBOUR: 'it returns false'. Refute it at one input. -/
def fnExactReadingOfWrong : ChangeSpec := { name := "fnExactReadingOf", fn := fun _ => fun
  | [d1, d2] => { results := [.lit (.bool false)], args := [d1, d2] }
  | _ => none }
def FnExactReadingOfWrongFalsely : Prop := fnExactReadingOfRow.holds Try.pinned (OpenSpec.ofChange fnExactReadingOfWrong)

/-- 'laws.FnExactMeanDifference': WHATEVER THE INPUT: true; the input reads as it did. -/
def fnExactMeanDifferenceSpec : ChangeSpec := { name := "fnExactMeanDifference", fn := fun _ => fun
  | [d1, d2] => { results := [.lit (.bool true)], args := [d1, d2] }
  | _ => none }
def fnExactMeanDifferenceRow : OpenClaim := { program := "ytlnkffnabifedaa", sum := "5c956fed22d5b59b78e4813a97df47635b738f444ddf1334614a85ac3b1a2554", func := "loop.example/g01254/laws.FnExactMeanDifference", spec := "fnExactMeanDifference", unfollowed := true, recurses := true, apart := false }
def FnExactMeanDifferenceSaid : Prop := fnExactMeanDifferenceRow.holds Try.pinned (OpenSpec.ofChange fnExactMeanDifferenceSpec)

/-- ITS FALSE NEIGHBOUR: 'it returns false'. Refute it at one input. -/
def fnExactMeanDifferenceWrong : ChangeSpec := { name := "fnExactMeanDifference", fn := fun _ => fun
  | [d1, d2] => { results := [.lit (.bool false)], args := [d1, d2] }
  | _ => none }
def FnExactMeanDifferenceWrongFalsely : Prop := fnExactMeanDifferenceRow.holds Try.pinned (OpenSpec.ofChange fnExactMeanDifferenceWrong)

/- THE SECOND FORM. 'bulk': how many values and letters a reading holds, each counted each time it is reached (what is shared counts as often as it is met; a slice's spare places count too). A statement '..UptoSaid' is the law's where the arguments, and the package variables that the reading takes, are together of bulk at most 1048576: NARROWER than '..Said'. Prove '..Said' where nothing that the law and all that it calls make is longer than what came in: it says more and counts as full. Else prove '..UptoSaid'. A law counts once. -/
mutual
def uptoBulk {H : Type} : DataW H → Nat
  | .lit (.string bytes) => bytes.length + 1
  | .lit _ => 1
  | .nil => 1
  | .ptr d => uptoBulk d + 1
  | .slice elems spare => uptoBulkAll elems + uptoBulkAll spare + 1
  | .agg parts => uptoBulkAll parts + 1
  | .iface _ d => uptoBulk d + 1
  | .map entries => uptoBulkEntries entries + 1
  | .held _ => 1
def uptoBulkAll {H : Type} : List (DataW H) → Nat
  | [] => 0
  | d :: r => uptoBulk d + uptoBulkAll r
def uptoBulkEntries {H : Type} : List (Lit × DataW H) → Nat
  | [] => 0
  | x :: r => uptoBulkEntry x + uptoBulkEntries r
def uptoBulkEntry {H : Type} : Lit × DataW H → Nat
  | (.string bytes, d) => bytes.length + uptoBulk d + 1
  | (_, d) => uptoBulk d + 1
 end
def uptoSmall : (H : Type) → List (DataW H) → Bool := fun _ ds => decide (uptoBulkAll ds ≤ 1048576)
def OpenSpec.upto (s : _root_.Go.ChangeSpec) : _root_.Go.OpenSpec := { _root_.Go.OpenSpec.ofChange s with cond := some uptoSmall }

/-- 'laws.FnExactValidReader', WHERE WHAT IT READS IS OF BULK AT MOST 1048576: true; the input reads as it did. -/
def fnExactValidReaderUptoRow : OpenClaim := { program := "ytlnkffnabifedaa", sum := "5c956fed22d5b59b78e4813a97df47635b738f444ddf1334614a85ac3b1a2554", func := "loop.example/g01254/laws.FnExactValidReader", spec := "fnExactValidReader", apart := false, narrowed := true }
def FnExactValidReaderUptoSaid : Prop := fnExactValidReaderUptoRow.holds Try.pinned (OpenSpec.upto fnExactValidReaderSpec)

/-- 'laws.FnExactLastDigits', WHERE WHAT IT READS IS OF BULK AT MOST 1048576: true; the input reads as it did. -/
def fnExactLastDigitsUptoRow : OpenClaim := { program := "ytlnkffnabifedaa", sum := "5c956fed22d5b59b78e4813a97df47635b738f444ddf1334614a85ac3b1a2554", func := "loop.example/g01254/laws.FnExactLastDigits", spec := "fnExactLastDigits", unfollowed := true, recurses := true, apart := false, narrowed := true }
def FnExactLastDigitsUptoSaid : Prop := fnExactLastDigitsUptoRow.holds Try.pinned (OpenSpec.upto fnExactLastDigitsSpec)

/-- 'laws.FnExactUnitSeen', WHERE WHAT IT READS IS OF BULK AT MOST 1048576: true; the input reads as it did. -/
def fnExactUnitSeenUptoRow : OpenClaim := { program := "ytlnkffnabifedaa", sum := "5c956fed22d5b59b78e4813a97df47635b738f444ddf1334614a85ac3b1a2554", func := "loop.example/g01254/laws.FnExactUnitSeen", spec := "fnExactUnitSeen", unfollowed := true, recurses := true, apart := false, narrowed := true }
def FnExactUnitSeenUptoSaid : Prop := fnExactUnitSeenUptoRow.holds Try.pinned (OpenSpec.upto fnExactUnitSeenSpec)

/-- 'laws.FnExactLikedDigit', WHERE WHAT IT READS IS OF BULK AT MOST 1048576: true; the input reads as it did. -/
def fnExactLikedDigitUptoRow : OpenClaim := { program := "ytlnkffnabifedaa", sum := "5c956fed22d5b59b78e4813a97df47635b738f444ddf1334614a85ac3b1a2554", func := "loop.example/g01254/laws.FnExactLikedDigit", spec := "fnExactLikedDigit", unfollowed := true, recurses := true, apart := false, narrowed := true }
def FnExactLikedDigitUptoSaid : Prop := fnExactLikedDigitUptoRow.holds Try.pinned (OpenSpec.upto fnExactLikedDigitSpec)

/-- 'laws.FnExactStretchOf', WHERE WHAT IT READS IS OF BULK AT MOST 1048576: true; the input reads as it did. -/
def fnExactStretchOfUptoRow : OpenClaim := { program := "ytlnkffnabifedaa", sum := "5c956fed22d5b59b78e4813a97df47635b738f444ddf1334614a85ac3b1a2554", func := "loop.example/g01254/laws.FnExactStretchOf", spec := "fnExactStretchOf", unfollowed := true, recurses := true, apart := false, narrowed := true }
def FnExactStretchOfUptoSaid : Prop := fnExactStretchOfUptoRow.holds Try.pinned (OpenSpec.upto fnExactStretchOfSpec)

/-- 'laws.FnExactReadingOf', WHERE WHAT IT READS IS OF BULK AT MOST 1048576: true; the input reads as it did. -/
def fnExactReadingOfUptoRow : OpenClaim := { program := "ytlnkffnabifedaa", sum := "5c956fed22d5b59b78e4813a97df47635b738f444ddf1334614a85ac3b1a2554", func := "loop.example/g01254/laws.FnExactReadingOf", spec := "fnExactReadingOf", apart := false, narrowed := true }
def FnExactReadingOfUptoSaid : Prop := fnExactReadingOfUptoRow.holds Try.pinned (OpenSpec.upto fnExactReadingOfSpec)

/-- 'laws.FnExactMeanDifference', WHERE WHAT IT READS IS OF BULK AT MOST 1048576: true; the input reads as it did. -/
def fnExactMeanDifferenceUptoRow : OpenClaim := { program := "ytlnkffnabifedaa", sum := "5c956fed22d5b59b78e4813a97df47635b738f444ddf1334614a85ac3b1a2554", func := "loop.example/g01254/laws.FnExactMeanDifference", spec := "fnExactMeanDifference", unfollowed := true, recurses := true, apart := false, narrowed := true }
def FnExactMeanDifferenceUptoSaid : Prop := fnExactMeanDifferenceUptoRow.holds Try.pinned (OpenSpec.upto fnExactMeanDifferenceSpec)

end Rows
end Go.Proofs.Ytlnkffnabifedaa
