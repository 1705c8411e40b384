/-
  DERIVED. GIVEN WITH THE SEED: THE CARDS: each row of YtihbmgpjihgodaaGreatDoorRows.lean that lists a variable, with what it lists TIED to the program's text (the seventh form; the later family's looks); each row that meets fmt, with fmt's text TOLD by the authors' own Lean function (tested against real Go, not proved from fmt's source: count such statements apart). THE CARD IS WHAT COUNTS. Prove the row's statement (the work); the ties are given (YtihbmgpjihgodaaGreatDoorTie.lean); close each card by the builder's one call (the guide's Derived/Test/ToyasCard.lean, 'card_holds'). Laid BY PROGRAM, IN A SANDBOX (cutbox-door.mjs). By AI agents, Wed Nov 11 2026. No macro, syntax, notation, axiom, sorry.
-/
import Derived.Test.YtihbmgpjihgodaaGreatDoorRows
import GoSem.ClaimSeven
namespace Go.Proofs.YtihbmgpjihgodaaGreatDoor
namespace Rows

/-- THE TIED CARD OF 'martellolaw09.PrinterWrites'. -/
def printerWritesCard : Claim7 := { stood := { row := printerWritesRow, standIns := [], harness := (true, "caf24beab655c38e26e8196a567ebf6e594e5290efe1ce9fddd8c10d5d2f3c9d"), looks := false }, kinds := [], alts := [], laidByText := true, laidKinds := [.data, .data, .data], laidTests := true, laidLooks := .later }
def PrinterWritesCardSaid : Prop := Claim7.holds Tryz.pinned (.plain (OpenSpec.ofChange printerWritesSpec)) printerWritesCard

/-- THE SECOND FORM's CARD OF 'martellolaw09.PrinterWrites'. -/
def printerWritesUptoCard : Claim7 := { stood := { row := printerWritesUptoRow, standIns := [], harness := (true, "caf24beab655c38e26e8196a567ebf6e594e5290efe1ce9fddd8c10d5d2f3c9d"), looks := false }, kinds := [], alts := [], laidByText := true, laidKinds := [.data, .data, .data], laidTests := true, laidLooks := .later }
def PrinterWritesUptoCardSaid : Prop := Claim7.holds Tryz.pinned (.plain (OpenSpec.upto printerWritesSpec)) printerWritesUptoCard
end Rows
end Go.Proofs.YtihbmgpjihgodaaGreatDoor
