/-
  DERIVED. GIVEN WITH THE SEED: THE CARDS: each row of YtamachahlhlhlaaDoorRows.lean that lists a variable, with what it lists TIED to the program's text (the seventh form; the later family's looks); each row that meets fmt, with fmt's text TOLD by the authors' own Lean function (tested against real Go, not proved from fmt's source: count such statements apart). THE CARD IS WHAT COUNTS. Prove the row's statement (the work); the ties are given (YtamachahlhlhlaaDoorTie.lean); close each card by the builder's one call (the guide's Derived/Test/ToyasCard.lean, 'card_holds'). Laid BY PROGRAM, IN A SANDBOX (cutbox-door.mjs). By AI agents, Wed Nov 11 2026. No macro, syntax, notation, axiom, sorry.
-/
import Derived.Test.YtamachahlhlhlaaDoorRows
import GoSem.ClaimSeven
namespace Go.Proofs.YtamachahlhlhlaaDoor
namespace Rows

/-- THE TIED CARD OF 'laws.FnExactReadReaders'. -/
def fnExactReadReadersCard : Claim7 := { stood := { row := fnExactReadReadersRow, standIns := [], harness := (true, "c3704c4662c13e23619850b2ef1d7976d0d3924229155980d1b2e8da4ec0fa66"), looks := true }, kinds := [], alts := [], laidByText := true, laidKinds := [.data, .data, .data, .data, .sentinel, .sentinel, .pinned], laidTests := true, laidLooks := .later }
def FnExactReadReadersCardSaid : Prop := Claim7.holds Tryd.pinned (.plain (OpenSpec.ofChange fnExactReadReadersSpec)) fnExactReadReadersCard

/-- THE TIED CARD OF 'laws.FnExactReadReport'. -/
def fnExactReadReportCard : Claim7 := { stood := { row := fnExactReadReportRow, standIns := [], harness := (true, "c3704c4662c13e23619850b2ef1d7976d0d3924229155980d1b2e8da4ec0fa66"), looks := true }, kinds := [], alts := [], laidByText := true, laidKinds := [.data, .data, .data, .data, .sentinel, .sentinel, .pinned], laidTests := true, laidLooks := .later }
def FnExactReadReportCardSaid : Prop := Claim7.holds Tryd.pinned (.plain (OpenSpec.ofChange fnExactReadReportSpec)) fnExactReadReportCard

/-- THE SECOND FORM's CARD OF 'laws.FnExactReadReaders'. -/
def fnExactReadReadersUptoCard : Claim7 := { stood := { row := fnExactReadReadersUptoRow, standIns := [], harness := (true, "c3704c4662c13e23619850b2ef1d7976d0d3924229155980d1b2e8da4ec0fa66"), looks := true }, kinds := [], alts := [], laidByText := true, laidKinds := [.data, .data, .data, .data, .sentinel, .sentinel, .pinned], laidTests := true, laidLooks := .later }
def FnExactReadReadersUptoCardSaid : Prop := Claim7.holds Tryd.pinned (.plain (OpenSpec.upto fnExactReadReadersSpec)) fnExactReadReadersUptoCard

/-- THE SECOND FORM's CARD OF 'laws.FnExactReadReport'. -/
def fnExactReadReportUptoCard : Claim7 := { stood := { row := fnExactReadReportUptoRow, standIns := [], harness := (true, "c3704c4662c13e23619850b2ef1d7976d0d3924229155980d1b2e8da4ec0fa66"), looks := true }, kinds := [], alts := [], laidByText := true, laidKinds := [.data, .data, .data, .data, .sentinel, .sentinel, .pinned], laidTests := true, laidLooks := .later }
def FnExactReadReportUptoCardSaid : Prop := Claim7.holds Tryd.pinned (.plain (OpenSpec.upto fnExactReadReportSpec)) fnExactReadReportUptoCard
end Rows
end Go.Proofs.YtamachahlhlhlaaDoor
