/-
  DERIVED. GIVEN WITH THE SEED: THE CARDS: each row of YtoemljgkofhhpaaDoorRows.lean that lists a variable, with what it lists TIED to the program's text (the seventh form; the later family's looks); each row that meets fmt, with fmt's text TOLD by the authors' own Lean function (tested against real Go, not proved from fmt's source: count such statements apart). THE CARD IS WHAT COUNTS. Prove the row's statement (the work); the ties are given (YtoemljgkofhhpaaDoorTie.lean); close each card by the builder's one call (the guide's Derived/Test/ToyasCard.lean, 'card_holds'). Laid BY PROGRAM, IN A SANDBOX (cutbox-door.mjs). By AI agents, Wed Nov 11 2026. No macro, syntax, notation, axiom, sorry.
-/
import Derived.Test.YtoemljgkofhhpaaDoorRows
import GoSem.ClaimSeven
namespace Go.Proofs.YtoemljgkofhhpaaDoor
namespace Rows

/-- THE TIED CARD OF 'mullionlaw06.PrintBinds'. -/
def printBindsCard : Claim7 := { stood := { row := printBindsRow, standIns := [], harness := (true, "925e4c3f9fba1a7ed346b8dec01fa202d4d8eefb12aa7c2329819ad5663e2048"), looks := false }, kinds := [], alts := [], laidByText := true, laidKinds := [.data, .data, .data, .data, .widerDeep, .pinned], laidTests := true, laidLooks := .later }
def PrintBindsCardSaid : Prop := Claim7.holds Tryd.pinned (.plain (OpenSpec.ofChange printBindsSpec)) printBindsCard

/-- THE SECOND FORM's CARD OF 'mullionlaw06.PrintBinds'. -/
def printBindsUptoCard : Claim7 := { stood := { row := printBindsUptoRow, standIns := [], harness := (true, "925e4c3f9fba1a7ed346b8dec01fa202d4d8eefb12aa7c2329819ad5663e2048"), looks := false }, kinds := [], alts := [], laidByText := true, laidKinds := [.data, .data, .data, .data, .widerDeep, .pinned], laidTests := true, laidLooks := .later }
def PrintBindsUptoCardSaid : Prop := Claim7.holds Tryd.pinned (.plain (OpenSpec.upto printBindsSpec)) printBindsUptoCard
end Rows
end Go.Proofs.YtoemljgkofhhpaaDoor
