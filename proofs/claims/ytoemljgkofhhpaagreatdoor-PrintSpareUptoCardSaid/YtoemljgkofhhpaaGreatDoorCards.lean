/-
  DERIVED. GIVEN WITH THE SEED: THE CARDS: each row of YtoemljgkofhhpaaGreatDoorRows.lean that lists a variable, with what it lists TIED to the program's text (the seventh form; the later family's looks); each row that meets fmt, with fmt's text TOLD by the authors' own Lean function (tested against real Go, not proved from fmt's source: count such statements apart). THE CARD IS WHAT COUNTS. Prove the row's statement (the work); the ties are given (YtoemljgkofhhpaaGreatDoorTie.lean); close each card by the builder's one call (the guide's Derived/Test/ToyasCard.lean, 'card_holds'). Laid BY PROGRAM, IN A SANDBOX (cutbox-door.mjs). By AI agents, Wed Nov 11 2026. No macro, syntax, notation, axiom, sorry.
-/
import Derived.Test.YtoemljgkofhhpaaGreatDoorRows
import GoSem.ClaimSeven
namespace Go.Proofs.YtoemljgkofhhpaaGreatDoor
namespace Rows

/-- THE TIED CARD OF 'mullionlaw06.PrintTexts'. -/
def printTextsCard : Claim7 := { stood := { row := printTextsRow, standIns := [], harness := (true, "721e8513db5f69d3d7203e89d359b2a775cc35c79a1f43a00d8c3f18678bcc18"), looks := true }, kinds := [], alts := [], laidByText := true, laidKinds := [.data, .data, .data, .data, .widerDeep, .pinned], laidTests := true, laidLooks := .later }
def PrintTextsCardSaid : Prop := Claim7.holds Tryz.pinned (.plain (OpenSpec.ofChange printTextsSpec)) printTextsCard

/-- THE TIED CARD OF 'mullionlaw06.PrintSpare'. -/
def printSpareCard : Claim7 := { stood := { row := printSpareRow, standIns := [], harness := (true, "721e8513db5f69d3d7203e89d359b2a775cc35c79a1f43a00d8c3f18678bcc18"), looks := true }, kinds := [], alts := [], laidByText := true, laidKinds := [.data, .data, .data, .data, .sentinel, .sentinel, .data, .widerDeep, .pinned], laidTests := true, laidLooks := .later }
def PrintSpareCardSaid : Prop := Claim7.holds Tryz.pinned (.plain (OpenSpec.ofChange printSpareSpec)) printSpareCard

/-- THE SECOND FORM's CARD OF 'mullionlaw06.PrintTexts'. -/
def printTextsUptoCard : Claim7 := { stood := { row := printTextsUptoRow, standIns := [], harness := (true, "721e8513db5f69d3d7203e89d359b2a775cc35c79a1f43a00d8c3f18678bcc18"), looks := true }, kinds := [], alts := [], laidByText := true, laidKinds := [.data, .data, .data, .data, .widerDeep, .pinned], laidTests := true, laidLooks := .later }
def PrintTextsUptoCardSaid : Prop := Claim7.holds Tryz.pinned (.plain (OpenSpec.upto printTextsSpec)) printTextsUptoCard

/-- THE SECOND FORM's CARD OF 'mullionlaw06.PrintSpare'. -/
def printSpareUptoCard : Claim7 := { stood := { row := printSpareUptoRow, standIns := [], harness := (true, "721e8513db5f69d3d7203e89d359b2a775cc35c79a1f43a00d8c3f18678bcc18"), looks := true }, kinds := [], alts := [], laidByText := true, laidKinds := [.data, .data, .data, .data, .sentinel, .sentinel, .data, .widerDeep, .pinned], laidTests := true, laidLooks := .later }
def PrintSpareUptoCardSaid : Prop := Claim7.holds Tryz.pinned (.plain (OpenSpec.upto printSpareSpec)) printSpareUptoCard
end Rows
end Go.Proofs.YtoemljgkofhhpaaGreatDoor
