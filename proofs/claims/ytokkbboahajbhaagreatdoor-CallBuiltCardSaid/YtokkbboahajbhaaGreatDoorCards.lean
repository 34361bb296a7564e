/-
  DERIVED. GIVEN WITH THE SEED: THE CARDS: each row of YtokkbboahajbhaaGreatDoorRows.lean that lists a variable, with what it lists TIED to the program's text (the seventh form; the later family's looks); each row that meets fmt, with fmt's text TOLD by the authors' own Lean function (tested against real Go, not proved from fmt's source: count such statements apart). THE CARD IS WHAT COUNTS. Prove the row's statement (the work); the ties are given (YtokkbboahajbhaaGreatDoorTie.lean); close each card by the builder's one call (the guide's Derived/Test/ToyasCard.lean, 'card_holds'). Laid BY PROGRAM, IN A SANDBOX (cutbox-door.mjs). By AI agents, Wed Nov 11 2026. No macro, syntax, notation, axiom, sorry.
-/
import Derived.Test.YtokkbboahajbhaaGreatDoorRows
import GoSem.ClaimSeven
namespace Go.Proofs.YtokkbboahajbhaaGreatDoor
namespace Rows

/-- THE TIED CARD OF 'kauditlaw10.CallBuilt'. -/
def callBuiltCard : Claim7 := { stood := { row := callBuiltRow, standIns := [], harness := (true, "f19f7d4b128dbf50aeab2d275baa55c8b03110b8ea17d8ae01931636ae59aa06"), looks := true }, kinds := [], alts := [], laidByText := true, laidKinds := [.data, .data, .data, .data, .sentinel, .sentinel, .data, .data, .pinned], laidTests := true, laidLooks := .later }
def CallBuiltCardSaid : Prop := Claim7.holds Tryz.pinned (.plain (OpenSpec.ofChange callBuiltSpec)) callBuiltCard

/-- THE SECOND FORM's CARD OF 'kauditlaw10.CallBuilt'. -/
def callBuiltUptoCard : Claim7 := { stood := { row := callBuiltUptoRow, standIns := [], harness := (true, "f19f7d4b128dbf50aeab2d275baa55c8b03110b8ea17d8ae01931636ae59aa06"), looks := true }, kinds := [], alts := [], laidByText := true, laidKinds := [.data, .data, .data, .data, .sentinel, .sentinel, .data, .data, .pinned], laidTests := true, laidLooks := .later }
def CallBuiltUptoCardSaid : Prop := Claim7.holds Tryz.pinned (.plain (OpenSpec.upto callBuiltSpec)) callBuiltUptoCard
end Rows
end Go.Proofs.YtokkbboahajbhaaGreatDoor
