/-
  DERIVED. GIVEN WITH THE SEED: THE CARDS: each row of YtnhnldmldnhaoaaGreatDoorRows.lean that lists a variable, with what it lists TIED to the program's text (the seventh form; the later family's looks); each row that meets fmt, with fmt's text TOLD by the authors' own Lean function (tested against real Go, not proved from fmt's source: count such statements apart). THE CARD IS WHAT COUNTS. Prove the row's statement (the work); the ties are given (YtnhnldmldnhaoaaGreatDoorTie.lean); close each card by the builder's one call (the guide's Derived/Test/ToyasCard.lean, 'card_holds'). Laid BY PROGRAM, IN A SANDBOX (cutbox-door.mjs). By AI agents, Wed Nov 11 2026. No macro, syntax, notation, axiom, sorry.
-/
import Derived.Test.YtnhnldmldnhaoaaGreatDoorRows
import GoSem.ClaimSeven
namespace Go.Proofs.YtnhnldmldnhaoaaGreatDoor
namespace Rows

/-- THE TIED CARD OF 'martellolaw08.SyntaxRight'. -/
def syntaxRightCard : Claim7 := { stood := { row := syntaxRightRow, standIns := [], harness := (true, "8196b040b8639c4a3c13fc724c80d9fae59201ea7643455adb7a08afbc10260e"), looks := true }, kinds := [], alts := [], laidByText := true, laidKinds := [.data, .pinned, .pinned], laidTests := true, laidLooks := .later }
def SyntaxRightCardSaid : Prop := Claim7.holds Tryz.pinned (.plain (OpenSpec.ofChange syntaxRightSpec)) syntaxRightCard

/-- THE TIED CARD OF 'martellolaw08.SyntaxFlags'. -/
def syntaxFlagsCard : Claim7 := { stood := { row := syntaxFlagsRow, standIns := [], harness := (true, "8196b040b8639c4a3c13fc724c80d9fae59201ea7643455adb7a08afbc10260e"), looks := true }, kinds := [], alts := [], laidByText := true, laidKinds := [.data, .pinned, .pinned], laidTests := true, laidLooks := .later }
def SyntaxFlagsCardSaid : Prop := Claim7.holds Tryz.pinned (.plain (OpenSpec.ofChange syntaxFlagsSpec)) syntaxFlagsCard

/-- THE TIED CARD OF 'martellolaw08.SyntaxDots'. -/
def syntaxDotsCard : Claim7 := { stood := { row := syntaxDotsRow, standIns := [], harness := (true, "8196b040b8639c4a3c13fc724c80d9fae59201ea7643455adb7a08afbc10260e"), looks := true }, kinds := [], alts := [], laidByText := true, laidKinds := [.data, .pinned, .pinned], laidTests := true, laidLooks := .later }
def SyntaxDotsCardSaid : Prop := Claim7.holds Tryz.pinned (.plain (OpenSpec.ofChange syntaxDotsSpec)) syntaxDotsCard

/-- THE TIED CARD OF 'martellolaw08.SyntaxQuotes'. -/
def syntaxQuotesCard : Claim7 := { stood := { row := syntaxQuotesRow, standIns := [], harness := (true, "8196b040b8639c4a3c13fc724c80d9fae59201ea7643455adb7a08afbc10260e"), looks := true }, kinds := [], alts := [], laidByText := true, laidKinds := [.data, .pinned, .pinned], laidTests := true, laidLooks := .later }
def SyntaxQuotesCardSaid : Prop := Claim7.holds Tryz.pinned (.plain (OpenSpec.ofChange syntaxQuotesSpec)) syntaxQuotesCard

/-- THE TIED CARD OF 'martellolaw08.SyntaxTexts'. -/
def syntaxTextsCard : Claim7 := { stood := { row := syntaxTextsRow, standIns := [], harness := (true, "8196b040b8639c4a3c13fc724c80d9fae59201ea7643455adb7a08afbc10260e"), looks := true }, kinds := [], alts := [], laidByText := true, laidKinds := [.data, .pinned, .pinned], laidTests := true, laidLooks := .later }
def SyntaxTextsCardSaid : Prop := Claim7.holds Tryz.pinned (.plain (OpenSpec.ofChange syntaxTextsSpec)) syntaxTextsCard

/-- THE TIED CARD OF 'martellolaw08.SyntaxRuns'. -/
def syntaxRunsCard : Claim7 := { stood := { row := syntaxRunsRow, standIns := [], harness := (true, "8196b040b8639c4a3c13fc724c80d9fae59201ea7643455adb7a08afbc10260e"), looks := true }, kinds := [], alts := [], laidByText := true, laidKinds := [.data, .data, .data, .data, .pinned, .pinned], laidTests := true, laidLooks := .later }
def SyntaxRunsCardSaid : Prop := Claim7.holds Tryz.pinned (.plain (OpenSpec.ofChange syntaxRunsSpec)) syntaxRunsCard

/-- THE SECOND FORM's CARD OF 'martellolaw08.SyntaxRight'. -/
def syntaxRightUptoCard : Claim7 := { stood := { row := syntaxRightUptoRow, standIns := [], harness := (true, "8196b040b8639c4a3c13fc724c80d9fae59201ea7643455adb7a08afbc10260e"), looks := true }, kinds := [], alts := [], laidByText := true, laidKinds := [.data, .pinned, .pinned], laidTests := true, laidLooks := .later }
def SyntaxRightUptoCardSaid : Prop := Claim7.holds Tryz.pinned (.plain (OpenSpec.upto syntaxRightSpec)) syntaxRightUptoCard

/-- THE SECOND FORM's CARD OF 'martellolaw08.SyntaxFlags'. -/
def syntaxFlagsUptoCard : Claim7 := { stood := { row := syntaxFlagsUptoRow, standIns := [], harness := (true, "8196b040b8639c4a3c13fc724c80d9fae59201ea7643455adb7a08afbc10260e"), looks := true }, kinds := [], alts := [], laidByText := true, laidKinds := [.data, .pinned, .pinned], laidTests := true, laidLooks := .later }
def SyntaxFlagsUptoCardSaid : Prop := Claim7.holds Tryz.pinned (.plain (OpenSpec.upto syntaxFlagsSpec)) syntaxFlagsUptoCard

/-- THE SECOND FORM's CARD OF 'martellolaw08.SyntaxDots'. -/
def syntaxDotsUptoCard : Claim7 := { stood := { row := syntaxDotsUptoRow, standIns := [], harness := (true, "8196b040b8639c4a3c13fc724c80d9fae59201ea7643455adb7a08afbc10260e"), looks := true }, kinds := [], alts := [], laidByText := true, laidKinds := [.data, .pinned, .pinned], laidTests := true, laidLooks := .later }
def SyntaxDotsUptoCardSaid : Prop := Claim7.holds Tryz.pinned (.plain (OpenSpec.upto syntaxDotsSpec)) syntaxDotsUptoCard

/-- THE SECOND FORM's CARD OF 'martellolaw08.SyntaxQuotes'. -/
def syntaxQuotesUptoCard : Claim7 := { stood := { row := syntaxQuotesUptoRow, standIns := [], harness := (true, "8196b040b8639c4a3c13fc724c80d9fae59201ea7643455adb7a08afbc10260e"), looks := true }, kinds := [], alts := [], laidByText := true, laidKinds := [.data, .pinned, .pinned], laidTests := true, laidLooks := .later }
def SyntaxQuotesUptoCardSaid : Prop := Claim7.holds Tryz.pinned (.plain (OpenSpec.upto syntaxQuotesSpec)) syntaxQuotesUptoCard

/-- THE SECOND FORM's CARD OF 'martellolaw08.SyntaxTexts'. -/
def syntaxTextsUptoCard : Claim7 := { stood := { row := syntaxTextsUptoRow, standIns := [], harness := (true, "8196b040b8639c4a3c13fc724c80d9fae59201ea7643455adb7a08afbc10260e"), looks := true }, kinds := [], alts := [], laidByText := true, laidKinds := [.data, .pinned, .pinned], laidTests := true, laidLooks := .later }
def SyntaxTextsUptoCardSaid : Prop := Claim7.holds Tryz.pinned (.plain (OpenSpec.upto syntaxTextsSpec)) syntaxTextsUptoCard

/-- THE SECOND FORM's CARD OF 'martellolaw08.SyntaxRuns'. -/
def syntaxRunsUptoCard : Claim7 := { stood := { row := syntaxRunsUptoRow, standIns := [], harness := (true, "8196b040b8639c4a3c13fc724c80d9fae59201ea7643455adb7a08afbc10260e"), looks := true }, kinds := [], alts := [], laidByText := true, laidKinds := [.data, .data, .data, .data, .pinned, .pinned], laidTests := true, laidLooks := .later }
def SyntaxRunsUptoCardSaid : Prop := Claim7.holds Tryz.pinned (.plain (OpenSpec.upto syntaxRunsSpec)) syntaxRunsUptoCard
end Rows
end Go.Proofs.YtnhnldmldnhaoaaGreatDoor
