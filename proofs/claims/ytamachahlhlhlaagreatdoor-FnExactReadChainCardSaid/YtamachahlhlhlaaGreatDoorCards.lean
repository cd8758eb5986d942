/-
  DERIVED. GIVEN WITH THE SEED: THE CARDS: each row of YtamachahlhlhlaaGreatDoorRows.lean that lists a variable, with what it lists TIED to the program's text (the seventh form; the later family's looks); each row that meets fmt, with fmt's text TOLD by the authors' own Lean function (tested against real Go, not proved from fmt's source: count such statements apart). THE CARD IS WHAT COUNTS. Prove the row's statement (the work); the ties are given (YtamachahlhlhlaaGreatDoorTie.lean); close each card by the builder's one call (the guide's Derived/Test/ToyasCard.lean, 'card_holds'). Laid BY PROGRAM, IN A SANDBOX (cutbox-door.mjs). By AI agents, Wed Nov 11 2026. No macro, syntax, notation, axiom, sorry.
-/
import Derived.Test.YtamachahlhlhlaaGreatDoorRows
import GoSem.ClaimSeven
namespace Go.Proofs.YtamachahlhlhlaaGreatDoor
namespace Rows

/-- THE TIED CARD OF 'laws.FnReaders'. -/
def fnReadersCard : Claim7 := { stood := { row := fnReadersRow, standIns := [], harness := (true, "f4445277a746d30c33652963d66bf799120291430f1aacdc57884efd5f0e9a80"), looks := true }, kinds := [], alts := [], laidByText := true, laidKinds := [.data, .data, .data, .data, .sentinel, .sentinel, .pinned], laidTests := true, laidLooks := .later }
def FnReadersCardSaid : Prop := Claim7.holds Tryz.pinned (.plain (OpenSpec.ofChange fnReadersSpec)) fnReadersCard

/-- THE TIED CARD OF 'laws.FnBenches'. -/
def fnBenchesCard : Claim7 := { stood := { row := fnBenchesRow, standIns := [], harness := (true, "f4445277a746d30c33652963d66bf799120291430f1aacdc57884efd5f0e9a80"), looks := true }, kinds := [], alts := [], laidByText := true, laidKinds := [.data, .data, .data, .data, .sentinel, .sentinel, .pinned], laidTests := true, laidLooks := .later }
def FnBenchesCardSaid : Prop := Claim7.holds Tryz.pinned (.plain (OpenSpec.ofChange fnBenchesSpec)) fnBenchesCard

/-- THE TIED CARD OF 'laws.FnStandards'. -/
def fnStandardsCard : Claim7 := { stood := { row := fnStandardsRow, standIns := [], harness := (true, "f4445277a746d30c33652963d66bf799120291430f1aacdc57884efd5f0e9a80"), looks := true }, kinds := [], alts := [], laidByText := true, laidKinds := [.data, .data, .data, .data, .sentinel, .sentinel, .pinned], laidTests := true, laidLooks := .later }
def FnStandardsCardSaid : Prop := Claim7.holds Tryz.pinned (.plain (OpenSpec.ofChange fnStandardsSpec)) fnStandardsCard

/-- THE TIED CARD OF 'laws.FnExactReadChain'. -/
def fnExactReadChainCard : Claim7 := { stood := { row := fnExactReadChainRow, standIns := [], harness := (true, "f4445277a746d30c33652963d66bf799120291430f1aacdc57884efd5f0e9a80"), looks := true }, kinds := [], alts := [], laidByText := true, laidKinds := [.data, .data, .data, .data, .sentinel, .sentinel, .pinned], laidTests := true, laidLooks := .later }
def FnExactReadChainCardSaid : Prop := Claim7.holds Tryz.pinned (.plain (OpenSpec.ofChange fnExactReadChainSpec)) fnExactReadChainCard

/-- THE TIED CARD OF 'laws.FnExactReadBench'. -/
def fnExactReadBenchCard : Claim7 := { stood := { row := fnExactReadBenchRow, standIns := [], harness := (true, "f4445277a746d30c33652963d66bf799120291430f1aacdc57884efd5f0e9a80"), looks := true }, kinds := [], alts := [], laidByText := true, laidKinds := [.data, .data, .data, .data, .sentinel, .sentinel, .pinned], laidTests := true, laidLooks := .later }
def FnExactReadBenchCardSaid : Prop := Claim7.holds Tryz.pinned (.plain (OpenSpec.ofChange fnExactReadBenchSpec)) fnExactReadBenchCard

/-- THE SECOND FORM's CARD OF 'laws.FnReaders'. -/
def fnReadersUptoCard : Claim7 := { stood := { row := fnReadersUptoRow, standIns := [], harness := (true, "f4445277a746d30c33652963d66bf799120291430f1aacdc57884efd5f0e9a80"), looks := true }, kinds := [], alts := [], laidByText := true, laidKinds := [.data, .data, .data, .data, .sentinel, .sentinel, .pinned], laidTests := true, laidLooks := .later }
def FnReadersUptoCardSaid : Prop := Claim7.holds Tryz.pinned (.plain (OpenSpec.upto fnReadersSpec)) fnReadersUptoCard

/-- THE SECOND FORM's CARD OF 'laws.FnBenches'. -/
def fnBenchesUptoCard : Claim7 := { stood := { row := fnBenchesUptoRow, standIns := [], harness := (true, "f4445277a746d30c33652963d66bf799120291430f1aacdc57884efd5f0e9a80"), looks := true }, kinds := [], alts := [], laidByText := true, laidKinds := [.data, .data, .data, .data, .sentinel, .sentinel, .pinned], laidTests := true, laidLooks := .later }
def FnBenchesUptoCardSaid : Prop := Claim7.holds Tryz.pinned (.plain (OpenSpec.upto fnBenchesSpec)) fnBenchesUptoCard

/-- THE SECOND FORM's CARD OF 'laws.FnStandards'. -/
def fnStandardsUptoCard : Claim7 := { stood := { row := fnStandardsUptoRow, standIns := [], harness := (true, "f4445277a746d30c33652963d66bf799120291430f1aacdc57884efd5f0e9a80"), looks := true }, kinds := [], alts := [], laidByText := true, laidKinds := [.data, .data, .data, .data, .sentinel, .sentinel, .pinned], laidTests := true, laidLooks := .later }
def FnStandardsUptoCardSaid : Prop := Claim7.holds Tryz.pinned (.plain (OpenSpec.upto fnStandardsSpec)) fnStandardsUptoCard

/-- THE SECOND FORM's CARD OF 'laws.FnExactReadChain'. -/
def fnExactReadChainUptoCard : Claim7 := { stood := { row := fnExactReadChainUptoRow, standIns := [], harness := (true, "f4445277a746d30c33652963d66bf799120291430f1aacdc57884efd5f0e9a80"), looks := true }, kinds := [], alts := [], laidByText := true, laidKinds := [.data, .data, .data, .data, .sentinel, .sentinel, .pinned], laidTests := true, laidLooks := .later }
def FnExactReadChainUptoCardSaid : Prop := Claim7.holds Tryz.pinned (.plain (OpenSpec.upto fnExactReadChainSpec)) fnExactReadChainUptoCard

/-- THE SECOND FORM's CARD OF 'laws.FnExactReadBench'. -/
def fnExactReadBenchUptoCard : Claim7 := { stood := { row := fnExactReadBenchUptoRow, standIns := [], harness := (true, "f4445277a746d30c33652963d66bf799120291430f1aacdc57884efd5f0e9a80"), looks := true }, kinds := [], alts := [], laidByText := true, laidKinds := [.data, .data, .data, .data, .sentinel, .sentinel, .pinned], laidTests := true, laidLooks := .later }
def FnExactReadBenchUptoCardSaid : Prop := Claim7.holds Tryz.pinned (.plain (OpenSpec.upto fnExactReadBenchSpec)) fnExactReadBenchUptoCard
end Rows
end Go.Proofs.YtamachahlhlhlaaGreatDoor
