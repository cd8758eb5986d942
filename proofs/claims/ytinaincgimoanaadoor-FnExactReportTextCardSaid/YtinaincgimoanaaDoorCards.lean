/-
  DERIVED. GIVEN WITH THE SEED: THE CARDS: each row of YtinaincgimoanaaDoorRows.lean that lists a variable, with what it lists TIED to the program's text (the seventh form; the later family's looks); each row that meets fmt, with fmt's text TOLD by the authors' own Lean function (tested against real Go, not proved from fmt's source: count such statements apart). THE CARD IS WHAT COUNTS. Prove the row's statement (the work); the ties are given (YtinaincgimoanaaDoorTie.lean); close each card by the builder's one call (the guide's Derived/Test/ToyasCard.lean, 'card_holds'). Laid BY PROGRAM, IN A SANDBOX (cutbox-door.mjs). By AI agents, Wed Nov 11 2026. No macro, syntax, notation, axiom, sorry.
-/
import Derived.Test.YtinaincgimoanaaDoorRows
import GoSem.ClaimSeven
namespace Go.Proofs.YtinaincgimoanaaDoor
namespace Rows

/-- THE TIED CARD OF 'laws.FnExactReadersText'. -/
def fnExactReadersTextCard : Claim7 := { stood := { row := fnExactReadersTextRow, standIns := [], harness := (true, "d3a4aa03cb4bce7c7956f67441ea146d763acddf00820a5b39ac2ffff6d9060b"), looks := true }, kinds := [], alts := [], laidByText := true, laidKinds := [.data, .data, .data], laidTests := true, laidLooks := .later }
def FnExactReadersTextCardSaid : Prop := Claim7.holds Tryd.pinned (.plain (OpenSpec.ofChange fnExactReadersTextSpec)) fnExactReadersTextCard

/-- THE TIED CARD OF 'laws.FnExactReportText'. -/
def fnExactReportTextCard : Claim7 := { stood := { row := fnExactReportTextRow, standIns := [], harness := (true, "d3a4aa03cb4bce7c7956f67441ea146d763acddf00820a5b39ac2ffff6d9060b"), looks := true }, kinds := [], alts := [], laidByText := true, laidKinds := [.data, .data, .data], laidTests := true, laidLooks := .later }
def FnExactReportTextCardSaid : Prop := Claim7.holds Tryd.pinned (.plain (OpenSpec.ofChange fnExactReportTextSpec)) fnExactReportTextCard

/-- THE TIED CARD OF 'laws.FnExactChainText'. -/
def fnExactChainTextCard : Claim7 := { stood := { row := fnExactChainTextRow, standIns := [], harness := (true, "d3a4aa03cb4bce7c7956f67441ea146d763acddf00820a5b39ac2ffff6d9060b"), looks := true }, kinds := [], alts := [], laidByText := true, laidKinds := [.data, .data, .data], laidTests := true, laidLooks := .later }
def FnExactChainTextCardSaid : Prop := Claim7.holds Tryd.pinned (.plain (OpenSpec.ofChange fnExactChainTextSpec)) fnExactChainTextCard

/-- THE TIED CARD OF 'laws.FnExactBenchText'. -/
def fnExactBenchTextCard : Claim7 := { stood := { row := fnExactBenchTextRow, standIns := [], harness := (true, "d3a4aa03cb4bce7c7956f67441ea146d763acddf00820a5b39ac2ffff6d9060b"), looks := true }, kinds := [], alts := [], laidByText := true, laidKinds := [.data, .data, .data], laidTests := true, laidLooks := .later }
def FnExactBenchTextCardSaid : Prop := Claim7.holds Tryd.pinned (.plain (OpenSpec.ofChange fnExactBenchTextSpec)) fnExactBenchTextCard

/-- THE TIED CARD OF 'laws.FnExactReadReaders'. -/
def fnExactReadReadersCard : Claim7 := { stood := { row := fnExactReadReadersRow, standIns := [], harness := (true, "d3a4aa03cb4bce7c7956f67441ea146d763acddf00820a5b39ac2ffff6d9060b"), looks := true }, kinds := [], alts := [], laidByText := true, laidKinds := [.data, .data, .data, .data, .sentinel, .sentinel, .pinned], laidTests := true, laidLooks := .later }
def FnExactReadReadersCardSaid : Prop := Claim7.holds Tryd.pinned (.plain (OpenSpec.ofChange fnExactReadReadersSpec)) fnExactReadReadersCard

/-- THE TIED CARD OF 'laws.FnExactReadReport'. -/
def fnExactReadReportCard : Claim7 := { stood := { row := fnExactReadReportRow, standIns := [], harness := (true, "d3a4aa03cb4bce7c7956f67441ea146d763acddf00820a5b39ac2ffff6d9060b"), looks := true }, kinds := [], alts := [], laidByText := true, laidKinds := [.data, .data, .data, .data, .sentinel, .sentinel, .pinned], laidTests := true, laidLooks := .later }
def FnExactReadReportCardSaid : Prop := Claim7.holds Tryd.pinned (.plain (OpenSpec.ofChange fnExactReadReportSpec)) fnExactReadReportCard

/-- THE SECOND FORM's CARD OF 'laws.FnExactReadersText'. -/
def fnExactReadersTextUptoCard : Claim7 := { stood := { row := fnExactReadersTextUptoRow, standIns := [], harness := (true, "d3a4aa03cb4bce7c7956f67441ea146d763acddf00820a5b39ac2ffff6d9060b"), looks := true }, kinds := [], alts := [], laidByText := true, laidKinds := [.data, .data, .data], laidTests := true, laidLooks := .later }
def FnExactReadersTextUptoCardSaid : Prop := Claim7.holds Tryd.pinned (.plain (OpenSpec.upto fnExactReadersTextSpec)) fnExactReadersTextUptoCard

/-- THE SECOND FORM's CARD OF 'laws.FnExactReportText'. -/
def fnExactReportTextUptoCard : Claim7 := { stood := { row := fnExactReportTextUptoRow, standIns := [], harness := (true, "d3a4aa03cb4bce7c7956f67441ea146d763acddf00820a5b39ac2ffff6d9060b"), looks := true }, kinds := [], alts := [], laidByText := true, laidKinds := [.data, .data, .data], laidTests := true, laidLooks := .later }
def FnExactReportTextUptoCardSaid : Prop := Claim7.holds Tryd.pinned (.plain (OpenSpec.upto fnExactReportTextSpec)) fnExactReportTextUptoCard

/-- THE SECOND FORM's CARD OF 'laws.FnExactChainText'. -/
def fnExactChainTextUptoCard : Claim7 := { stood := { row := fnExactChainTextUptoRow, standIns := [], harness := (true, "d3a4aa03cb4bce7c7956f67441ea146d763acddf00820a5b39ac2ffff6d9060b"), looks := true }, kinds := [], alts := [], laidByText := true, laidKinds := [.data, .data, .data], laidTests := true, laidLooks := .later }
def FnExactChainTextUptoCardSaid : Prop := Claim7.holds Tryd.pinned (.plain (OpenSpec.upto fnExactChainTextSpec)) fnExactChainTextUptoCard

/-- THE SECOND FORM's CARD OF 'laws.FnExactBenchText'. -/
def fnExactBenchTextUptoCard : Claim7 := { stood := { row := fnExactBenchTextUptoRow, standIns := [], harness := (true, "d3a4aa03cb4bce7c7956f67441ea146d763acddf00820a5b39ac2ffff6d9060b"), looks := true }, kinds := [], alts := [], laidByText := true, laidKinds := [.data, .data, .data], laidTests := true, laidLooks := .later }
def FnExactBenchTextUptoCardSaid : Prop := Claim7.holds Tryd.pinned (.plain (OpenSpec.upto fnExactBenchTextSpec)) fnExactBenchTextUptoCard

/-- THE SECOND FORM's CARD OF 'laws.FnExactReadReaders'. -/
def fnExactReadReadersUptoCard : Claim7 := { stood := { row := fnExactReadReadersUptoRow, standIns := [], harness := (true, "d3a4aa03cb4bce7c7956f67441ea146d763acddf00820a5b39ac2ffff6d9060b"), looks := true }, kinds := [], alts := [], laidByText := true, laidKinds := [.data, .data, .data, .data, .sentinel, .sentinel, .pinned], laidTests := true, laidLooks := .later }
def FnExactReadReadersUptoCardSaid : Prop := Claim7.holds Tryd.pinned (.plain (OpenSpec.upto fnExactReadReadersSpec)) fnExactReadReadersUptoCard

/-- THE SECOND FORM's CARD OF 'laws.FnExactReadReport'. -/
def fnExactReadReportUptoCard : Claim7 := { stood := { row := fnExactReadReportUptoRow, standIns := [], harness := (true, "d3a4aa03cb4bce7c7956f67441ea146d763acddf00820a5b39ac2ffff6d9060b"), looks := true }, kinds := [], alts := [], laidByText := true, laidKinds := [.data, .data, .data, .data, .sentinel, .sentinel, .pinned], laidTests := true, laidLooks := .later }
def FnExactReadReportUptoCardSaid : Prop := Claim7.holds Tryd.pinned (.plain (OpenSpec.upto fnExactReadReportSpec)) fnExactReadReportUptoCard
end Rows
end Go.Proofs.YtinaincgimoanaaDoor
