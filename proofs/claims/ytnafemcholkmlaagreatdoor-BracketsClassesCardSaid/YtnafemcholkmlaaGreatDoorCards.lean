/-
  DERIVED. GIVEN WITH THE SEED: THE CARDS: each row of YtnafemcholkmlaaGreatDoorRows.lean that lists a variable, with what it lists TIED to the program's text (the seventh form; the later family's looks); each row that meets fmt, with fmt's text TOLD by the authors' own Lean function (tested against real Go, not proved from fmt's source: count such statements apart). THE CARD IS WHAT COUNTS. Prove the row's statement (the work); the ties are given (YtnafemcholkmlaaGreatDoorTie.lean); close each card by the builder's one call (the guide's Derived/Test/ToyasCard.lean, 'card_holds'). Laid BY PROGRAM, IN A SANDBOX (cutbox-door.mjs). By AI agents, Wed Nov 11 2026. No macro, syntax, notation, axiom, sorry.
-/
import Derived.Test.YtnafemcholkmlaaGreatDoorRows
import GoSem.ClaimSeven
namespace Go.Proofs.YtnafemcholkmlaaGreatDoor
namespace Rows

/-- THE TIED CARD OF 'martellolaw07.BracketsClasses'. -/
def bracketsClassesCard : Claim7 := { stood := { row := bracketsClassesRow, standIns := [], harness := (true, "5b88bfc1eaad2703bfe3b1bbd61cabc8e851d8c8244e782889497de499282102"), looks := true }, kinds := [], alts := [], laidByText := true, laidKinds := [.data, .pinned, .pinned], laidTests := true, laidLooks := .later }
def BracketsClassesCardSaid : Prop := Claim7.holds Tryz.pinned (.plain (OpenSpec.ofChange bracketsClassesSpec)) bracketsClassesCard

/-- THE TIED CARD OF 'martellolaw07.BracketsTurned'. -/
def bracketsTurnedCard : Claim7 := { stood := { row := bracketsTurnedRow, standIns := [], harness := (true, "5b88bfc1eaad2703bfe3b1bbd61cabc8e851d8c8244e782889497de499282102"), looks := true }, kinds := [], alts := [], laidByText := true, laidKinds := [.data, .pinned, .pinned], laidTests := true, laidLooks := .later }
def BracketsTurnedCardSaid : Prop := Claim7.holds Tryz.pinned (.plain (OpenSpec.ofChange bracketsTurnedSpec)) bracketsTurnedCard

/-- THE TIED CARD OF 'martellolaw07.BracketsRuns'. -/
def bracketsRunsCard : Claim7 := { stood := { row := bracketsRunsRow, standIns := [], harness := (true, "5b88bfc1eaad2703bfe3b1bbd61cabc8e851d8c8244e782889497de499282102"), looks := true }, kinds := [], alts := [], laidByText := true, laidKinds := [.data, .pinned, .pinned], laidTests := true, laidLooks := .later }
def BracketsRunsCardSaid : Prop := Claim7.holds Tryz.pinned (.plain (OpenSpec.ofChange bracketsRunsSpec)) bracketsRunsCard

/-- THE TIED CARD OF 'martellolaw07.BracketsUnion'. -/
def bracketsUnionCard : Claim7 := { stood := { row := bracketsUnionRow, standIns := [], harness := (true, "5b88bfc1eaad2703bfe3b1bbd61cabc8e851d8c8244e782889497de499282102"), looks := true }, kinds := [], alts := [], laidByText := true, laidKinds := [.data, .data, .data, .data, .pinned, .pinned], laidTests := true, laidLooks := .later }
def BracketsUnionCardSaid : Prop := Claim7.holds Tryz.pinned (.plain (OpenSpec.ofChange bracketsUnionSpec)) bracketsUnionCard

/-- THE SECOND FORM's CARD OF 'martellolaw07.BracketsClasses'. -/
def bracketsClassesUptoCard : Claim7 := { stood := { row := bracketsClassesUptoRow, standIns := [], harness := (true, "5b88bfc1eaad2703bfe3b1bbd61cabc8e851d8c8244e782889497de499282102"), looks := true }, kinds := [], alts := [], laidByText := true, laidKinds := [.data, .pinned, .pinned], laidTests := true, laidLooks := .later }
def BracketsClassesUptoCardSaid : Prop := Claim7.holds Tryz.pinned (.plain (OpenSpec.upto bracketsClassesSpec)) bracketsClassesUptoCard

/-- THE SECOND FORM's CARD OF 'martellolaw07.BracketsTurned'. -/
def bracketsTurnedUptoCard : Claim7 := { stood := { row := bracketsTurnedUptoRow, standIns := [], harness := (true, "5b88bfc1eaad2703bfe3b1bbd61cabc8e851d8c8244e782889497de499282102"), looks := true }, kinds := [], alts := [], laidByText := true, laidKinds := [.data, .pinned, .pinned], laidTests := true, laidLooks := .later }
def BracketsTurnedUptoCardSaid : Prop := Claim7.holds Tryz.pinned (.plain (OpenSpec.upto bracketsTurnedSpec)) bracketsTurnedUptoCard

/-- THE SECOND FORM's CARD OF 'martellolaw07.BracketsRuns'. -/
def bracketsRunsUptoCard : Claim7 := { stood := { row := bracketsRunsUptoRow, standIns := [], harness := (true, "5b88bfc1eaad2703bfe3b1bbd61cabc8e851d8c8244e782889497de499282102"), looks := true }, kinds := [], alts := [], laidByText := true, laidKinds := [.data, .pinned, .pinned], laidTests := true, laidLooks := .later }
def BracketsRunsUptoCardSaid : Prop := Claim7.holds Tryz.pinned (.plain (OpenSpec.upto bracketsRunsSpec)) bracketsRunsUptoCard

/-- THE SECOND FORM's CARD OF 'martellolaw07.BracketsUnion'. -/
def bracketsUnionUptoCard : Claim7 := { stood := { row := bracketsUnionUptoRow, standIns := [], harness := (true, "5b88bfc1eaad2703bfe3b1bbd61cabc8e851d8c8244e782889497de499282102"), looks := true }, kinds := [], alts := [], laidByText := true, laidKinds := [.data, .data, .data, .data, .pinned, .pinned], laidTests := true, laidLooks := .later }
def BracketsUnionUptoCardSaid : Prop := Claim7.holds Tryz.pinned (.plain (OpenSpec.upto bracketsUnionSpec)) bracketsUnionUptoCard
end Rows
end Go.Proofs.YtnafemcholkmlaaGreatDoor
