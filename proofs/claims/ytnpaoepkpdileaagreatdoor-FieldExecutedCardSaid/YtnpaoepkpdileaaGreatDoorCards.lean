/-
  DERIVED. GIVEN WITH THE SEED: THE CARDS: each row of YtnpaoepkpdileaaGreatDoorRows.lean that lists a variable, with what it lists TIED to the program's text (the seventh form; the later family's looks); each row that meets fmt, with fmt's text TOLD by the authors' own Lean function (tested against real Go, not proved from fmt's source: count such statements apart). THE CARD IS WHAT COUNTS. Prove the row's statement (the work); the ties are given (YtnpaoepkpdileaaGreatDoorTie.lean); close each card by the builder's one call (the guide's Derived/Test/ToyasCard.lean, 'card_holds'). Laid BY PROGRAM, IN A SANDBOX (cutbox-door.mjs). By AI agents, Wed Nov 11 2026. No macro, syntax, notation, axiom, sorry.
-/
import Derived.Test.YtnpaoepkpdileaaGreatDoorRows
import GoSem.ClaimSeven
namespace Go.Proofs.YtnpaoepkpdileaaGreatDoor
namespace Rows

/-- THE TIED CARD OF 'kauditlaw12.FieldExecuted'. -/
def fieldExecutedCard : Claim7 := { stood := { row := fieldExecutedRow, standIns := [], harness := (true, "853de5d88ef649f44e189a0034c428e703a08a38e88e3e427993a81caa7bb4a7"), looks := false }, kinds := [], alts := [], laidByText := true, laidKinds := [.data, .data, .data, .data, .data, .data], laidTests := true, laidLooks := .later }
def FieldExecutedCardSaid : Prop := Claim7.holds Tryz.pinned (.plain (OpenSpec.ofChange fieldExecutedSpec)) fieldExecutedCard

/-- THE SECOND FORM's CARD OF 'kauditlaw12.FieldExecuted'. -/
def fieldExecutedUptoCard : Claim7 := { stood := { row := fieldExecutedUptoRow, standIns := [], harness := (true, "853de5d88ef649f44e189a0034c428e703a08a38e88e3e427993a81caa7bb4a7"), looks := false }, kinds := [], alts := [], laidByText := true, laidKinds := [.data, .data, .data, .data, .data, .data], laidTests := true, laidLooks := .later }
def FieldExecutedUptoCardSaid : Prop := Claim7.holds Tryz.pinned (.plain (OpenSpec.upto fieldExecutedSpec)) fieldExecutedUptoCard
end Rows
end Go.Proofs.YtnpaoepkpdileaaGreatDoor
