/-
  DERIVED. GIVEN WITH THE SEED: THE CARDS: each row of YtjmgboegipeijaaGreatDoorRows.lean that lists a variable, with what it lists TIED to the program's text (the seventh form; the later family's looks); each row that meets fmt, with fmt's text TOLD by the authors' own Lean function (tested against real Go, not proved from fmt's source: count such statements apart). THE CARD IS WHAT COUNTS. Prove the row's statement (the work); the ties are given (YtjmgboegipeijaaGreatDoorTie.lean); close each card by the builder's one call (the guide's Derived/Test/ToyasCard.lean, 'card_holds'). Laid BY PROGRAM, IN A SANDBOX (cutbox-door.mjs). By AI agents, Wed Nov 11 2026. No macro, syntax, notation, axiom, sorry.
-/
import Derived.Test.YtjmgboegipeijaaGreatDoorRows
import GoSem.ClaimSeven
namespace Go.Proofs.YtjmgboegipeijaaGreatDoor
namespace Rows

/-- THE TIED CARD OF 'martellolaw06.ScanEscapes'. -/
def scanEscapesCard : Claim7 := { stood := { row := scanEscapesRow, standIns := [], harness := (true, "838de8fd786f2cfb1370dbaf430adc129d0ccb4311b2f29e6c5ffbb9f727a94f"), looks := false }, kinds := [], alts := [], laidByText := true, laidKinds := [.data, .pinned, .pinned], laidTests := true, laidLooks := .later }
def ScanEscapesCardSaid : Prop := Claim7.holds Tryz.pinned (.plain (OpenSpec.ofChange scanEscapesSpec)) scanEscapesCard

/-- THE TIED CARD OF 'martellolaw06.ScanCounts'. -/
def scanCountsCard : Claim7 := { stood := { row := scanCountsRow, standIns := [], harness := (true, "838de8fd786f2cfb1370dbaf430adc129d0ccb4311b2f29e6c5ffbb9f727a94f"), looks := false }, kinds := [], alts := [], laidByText := true, laidKinds := [.data, .pinned, .pinned], laidTests := true, laidLooks := .later }
def ScanCountsCardSaid : Prop := Claim7.holds Tryz.pinned (.plain (OpenSpec.ofChange scanCountsSpec)) scanCountsCard

/-- THE TIED CARD OF 'martellolaw06.ScanCodes'. -/
def scanCodesCard : Claim7 := { stood := { row := scanCodesRow, standIns := [], harness := (true, "838de8fd786f2cfb1370dbaf430adc129d0ccb4311b2f29e6c5ffbb9f727a94f"), looks := false }, kinds := [], alts := [], laidByText := true, laidKinds := [.data, .pinned, .pinned], laidTests := true, laidLooks := .later }
def ScanCodesCardSaid : Prop := Claim7.holds Tryz.pinned (.plain (OpenSpec.ofChange scanCodesSpec)) scanCodesCard

/-- THE TIED CARD OF 'martellolaw06.ScanFlags'. -/
def scanFlagsCard : Claim7 := { stood := { row := scanFlagsRow, standIns := [], harness := (true, "838de8fd786f2cfb1370dbaf430adc129d0ccb4311b2f29e6c5ffbb9f727a94f"), looks := false }, kinds := [], alts := [], laidByText := true, laidKinds := [.data, .pinned, .pinned], laidTests := true, laidLooks := .later }
def ScanFlagsCardSaid : Prop := Claim7.holds Tryz.pinned (.plain (OpenSpec.ofChange scanFlagsSpec)) scanFlagsCard

/-- THE TIED CARD OF 'martellolaw06.ScanLetters'. -/
def scanLettersCard : Claim7 := { stood := { row := scanLettersRow, standIns := [], harness := (true, "838de8fd786f2cfb1370dbaf430adc129d0ccb4311b2f29e6c5ffbb9f727a94f"), looks := false }, kinds := [], alts := [], laidByText := true, laidKinds := [.data, .pinned, .pinned], laidTests := true, laidLooks := .later }
def ScanLettersCardSaid : Prop := Claim7.holds Tryz.pinned (.plain (OpenSpec.ofChange scanLettersSpec)) scanLettersCard

/-- THE TIED CARD OF 'martellolaw06.ScanNames'. -/
def scanNamesCard : Claim7 := { stood := { row := scanNamesRow, standIns := [], harness := (true, "838de8fd786f2cfb1370dbaf430adc129d0ccb4311b2f29e6c5ffbb9f727a94f"), looks := false }, kinds := [], alts := [], laidByText := true, laidKinds := [.data, .pinned, .pinned], laidTests := true, laidLooks := .later }
def ScanNamesCardSaid : Prop := Claim7.holds Tryz.pinned (.plain (OpenSpec.ofChange scanNamesSpec)) scanNamesCard

/-- THE TIED CARD OF 'martellolaw06.ScanTold'. -/
def scanToldCard : Claim7 := { stood := { row := scanToldRow, standIns := [], harness := (true, "838de8fd786f2cfb1370dbaf430adc129d0ccb4311b2f29e6c5ffbb9f727a94f"), looks := false }, kinds := [], alts := [], laidByText := true, laidKinds := [.data, .data, .data, .data, .pinned, .pinned], laidTests := true, laidLooks := .later }
def ScanToldCardSaid : Prop := Claim7.holds Tryz.pinned (.plain (OpenSpec.ofChange scanToldSpec)) scanToldCard

/-- THE SECOND FORM's CARD OF 'martellolaw06.ScanEscapes'. -/
def scanEscapesUptoCard : Claim7 := { stood := { row := scanEscapesUptoRow, standIns := [], harness := (true, "838de8fd786f2cfb1370dbaf430adc129d0ccb4311b2f29e6c5ffbb9f727a94f"), looks := false }, kinds := [], alts := [], laidByText := true, laidKinds := [.data, .pinned, .pinned], laidTests := true, laidLooks := .later }
def ScanEscapesUptoCardSaid : Prop := Claim7.holds Tryz.pinned (.plain (OpenSpec.upto scanEscapesSpec)) scanEscapesUptoCard

/-- THE SECOND FORM's CARD OF 'martellolaw06.ScanCounts'. -/
def scanCountsUptoCard : Claim7 := { stood := { row := scanCountsUptoRow, standIns := [], harness := (true, "838de8fd786f2cfb1370dbaf430adc129d0ccb4311b2f29e6c5ffbb9f727a94f"), looks := false }, kinds := [], alts := [], laidByText := true, laidKinds := [.data, .pinned, .pinned], laidTests := true, laidLooks := .later }
def ScanCountsUptoCardSaid : Prop := Claim7.holds Tryz.pinned (.plain (OpenSpec.upto scanCountsSpec)) scanCountsUptoCard

/-- THE SECOND FORM's CARD OF 'martellolaw06.ScanCodes'. -/
def scanCodesUptoCard : Claim7 := { stood := { row := scanCodesUptoRow, standIns := [], harness := (true, "838de8fd786f2cfb1370dbaf430adc129d0ccb4311b2f29e6c5ffbb9f727a94f"), looks := false }, kinds := [], alts := [], laidByText := true, laidKinds := [.data, .pinned, .pinned], laidTests := true, laidLooks := .later }
def ScanCodesUptoCardSaid : Prop := Claim7.holds Tryz.pinned (.plain (OpenSpec.upto scanCodesSpec)) scanCodesUptoCard

/-- THE SECOND FORM's CARD OF 'martellolaw06.ScanFlags'. -/
def scanFlagsUptoCard : Claim7 := { stood := { row := scanFlagsUptoRow, standIns := [], harness := (true, "838de8fd786f2cfb1370dbaf430adc129d0ccb4311b2f29e6c5ffbb9f727a94f"), looks := false }, kinds := [], alts := [], laidByText := true, laidKinds := [.data, .pinned, .pinned], laidTests := true, laidLooks := .later }
def ScanFlagsUptoCardSaid : Prop := Claim7.holds Tryz.pinned (.plain (OpenSpec.upto scanFlagsSpec)) scanFlagsUptoCard

/-- THE SECOND FORM's CARD OF 'martellolaw06.ScanLetters'. -/
def scanLettersUptoCard : Claim7 := { stood := { row := scanLettersUptoRow, standIns := [], harness := (true, "838de8fd786f2cfb1370dbaf430adc129d0ccb4311b2f29e6c5ffbb9f727a94f"), looks := false }, kinds := [], alts := [], laidByText := true, laidKinds := [.data, .pinned, .pinned], laidTests := true, laidLooks := .later }
def ScanLettersUptoCardSaid : Prop := Claim7.holds Tryz.pinned (.plain (OpenSpec.upto scanLettersSpec)) scanLettersUptoCard

/-- THE SECOND FORM's CARD OF 'martellolaw06.ScanNames'. -/
def scanNamesUptoCard : Claim7 := { stood := { row := scanNamesUptoRow, standIns := [], harness := (true, "838de8fd786f2cfb1370dbaf430adc129d0ccb4311b2f29e6c5ffbb9f727a94f"), looks := false }, kinds := [], alts := [], laidByText := true, laidKinds := [.data, .pinned, .pinned], laidTests := true, laidLooks := .later }
def ScanNamesUptoCardSaid : Prop := Claim7.holds Tryz.pinned (.plain (OpenSpec.upto scanNamesSpec)) scanNamesUptoCard

/-- THE SECOND FORM's CARD OF 'martellolaw06.ScanTold'. -/
def scanToldUptoCard : Claim7 := { stood := { row := scanToldUptoRow, standIns := [], harness := (true, "838de8fd786f2cfb1370dbaf430adc129d0ccb4311b2f29e6c5ffbb9f727a94f"), looks := false }, kinds := [], alts := [], laidByText := true, laidKinds := [.data, .data, .data, .data, .pinned, .pinned], laidTests := true, laidLooks := .later }
def ScanToldUptoCardSaid : Prop := Claim7.holds Tryz.pinned (.plain (OpenSpec.upto scanToldSpec)) scanToldUptoCard
end Rows
end Go.Proofs.YtjmgboegipeijaaGreatDoor
