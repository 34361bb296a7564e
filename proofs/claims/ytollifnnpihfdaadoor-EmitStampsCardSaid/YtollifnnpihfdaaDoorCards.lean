/-
  DERIVED. GIVEN WITH THE SEED: THE CARDS: each row of YtollifnnpihfdaaDoorRows.lean that lists a variable, with what it lists TIED to the program's text (the seventh form; the later family's looks); each row that meets fmt, with fmt's text TOLD by the authors' own Lean function (tested against real Go, not proved from fmt's source: count such statements apart). THE CARD IS WHAT COUNTS. Prove the row's statement (the work); the ties are given (YtollifnnpihfdaaDoorTie.lean); close each card by the builder's one call (the guide's Derived/Test/ToyasCard.lean, 'card_holds'). Laid BY PROGRAM, IN A SANDBOX (cutbox-door.mjs). By AI agents, Wed Nov 11 2026. No macro, syntax, notation, axiom, sorry.
-/
import Derived.Test.YtollifnnpihfdaaDoorRows
import GoSem.ClaimSeven
namespace Go.Proofs.YtollifnnpihfdaaDoor
namespace Rows

/-- THE TIED CARD OF 'kauditlaw19.EmitStamps'. -/
def emitStampsCard : Claim7 := { stood := { row := emitStampsRow, standIns := [], harness := (true, "63606e3ac8aaa00e60b857a690637a791e6200cb43daf4a6f6ef36e2061ff357"), looks := false }, kinds := [], alts := [], laidByText := true, laidKinds := [.data, .data, .data, .data], laidTests := true, laidLooks := .later }
def EmitStampsCardSaid : Prop := Claim7.holds Tryd.pinned (.plain (OpenSpec.ofChange emitStampsSpec)) emitStampsCard

/-- THE SECOND FORM's CARD OF 'kauditlaw19.EmitStamps'. -/
def emitStampsUptoCard : Claim7 := { stood := { row := emitStampsUptoRow, standIns := [], harness := (true, "63606e3ac8aaa00e60b857a690637a791e6200cb43daf4a6f6ef36e2061ff357"), looks := false }, kinds := [], alts := [], laidByText := true, laidKinds := [.data, .data, .data, .data], laidTests := true, laidLooks := .later }
def EmitStampsUptoCardSaid : Prop := Claim7.holds Tryd.pinned (.plain (OpenSpec.upto emitStampsSpec)) emitStampsUptoCard
end Rows
end Go.Proofs.YtollifnnpihfdaaDoor
