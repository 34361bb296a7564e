/-
  DERIVED. GIVEN WITH THE SEED: THE CARDS: each row of YtpldopoeopjcoaaGreatDoorRows.lean that lists a variable, with what it lists TIED to the program's text (the seventh form; the later family's looks); each row that meets fmt, with fmt's text TOLD by the authors' own Lean function (tested against real Go, not proved from fmt's source: count such statements apart). THE CARD IS WHAT COUNTS. Prove the row's statement (the work); the ties are given (YtpldopoeopjcoaaGreatDoorTie.lean); close each card by the builder's one call (the guide's Derived/Test/ToyasCard.lean, 'card_holds'). Laid BY PROGRAM, IN A SANDBOX (cutbox-door.mjs). By AI agents, Wed Nov 11 2026. No macro, syntax, notation, axiom, sorry.
-/
import Derived.Test.YtpldopoeopjcoaaGreatDoorRows
import GoSem.ClaimSeven
namespace Go.Proofs.YtpldopoeopjcoaaGreatDoor
namespace Rows

/-- THE TIED CARD OF 'kauditlaw38.ExpressionBack'. -/
def expressionBackCard : Claim7 := { stood := { row := expressionBackRow, standIns := [], harness := (true, "8940b0fe6636f9280a428435860dd59ebadb987acd61d8c429724c97919fbdc0"), looks := true }, kinds := [], alts := [], laidByText := true, laidKinds := [.data, .data, .data, .data, .sentinel, .sentinel, .data, .data, .pinned], laidTests := true, laidLooks := .later }
def ExpressionBackCardSaid : Prop := Claim7.holds Tryz.pinned (.plain (OpenSpec.ofChange expressionBackSpec)) expressionBackCard

/-- THE TIED CARD OF 'kauditlaw38.ExpressionLogic'. -/
def expressionLogicCard : Claim7 := { stood := { row := expressionLogicRow, standIns := [], harness := (true, "8940b0fe6636f9280a428435860dd59ebadb987acd61d8c429724c97919fbdc0"), looks := true }, kinds := [], alts := [], laidByText := true, laidKinds := [.data, .data, .data, .data, .sentinel, .sentinel, .data, .data, .pinned], laidTests := true, laidLooks := .later }
def ExpressionLogicCardSaid : Prop := Claim7.holds Tryz.pinned (.plain (OpenSpec.ofChange expressionLogicSpec)) expressionLogicCard

/-- THE TIED CARD OF 'kauditlaw38.ExpressionTests'. -/
def expressionTestsCard : Claim7 := { stood := { row := expressionTestsRow, standIns := [], harness := (true, "8940b0fe6636f9280a428435860dd59ebadb987acd61d8c429724c97919fbdc0"), looks := true }, kinds := [], alts := [], laidByText := true, laidKinds := [.data, .data, .data, .data, .sentinel, .sentinel, .data, .data, .pinned], laidTests := true, laidLooks := .later }
def ExpressionTestsCardSaid : Prop := Claim7.holds Tryz.pinned (.plain (OpenSpec.ofChange expressionTestsSpec)) expressionTestsCard

/-- THE SECOND FORM's CARD OF 'kauditlaw38.ExpressionBack'. -/
def expressionBackUptoCard : Claim7 := { stood := { row := expressionBackUptoRow, standIns := [], harness := (true, "8940b0fe6636f9280a428435860dd59ebadb987acd61d8c429724c97919fbdc0"), looks := true }, kinds := [], alts := [], laidByText := true, laidKinds := [.data, .data, .data, .data, .sentinel, .sentinel, .data, .data, .pinned], laidTests := true, laidLooks := .later }
def ExpressionBackUptoCardSaid : Prop := Claim7.holds Tryz.pinned (.plain (OpenSpec.upto expressionBackSpec)) expressionBackUptoCard

/-- THE SECOND FORM's CARD OF 'kauditlaw38.ExpressionLogic'. -/
def expressionLogicUptoCard : Claim7 := { stood := { row := expressionLogicUptoRow, standIns := [], harness := (true, "8940b0fe6636f9280a428435860dd59ebadb987acd61d8c429724c97919fbdc0"), looks := true }, kinds := [], alts := [], laidByText := true, laidKinds := [.data, .data, .data, .data, .sentinel, .sentinel, .data, .data, .pinned], laidTests := true, laidLooks := .later }
def ExpressionLogicUptoCardSaid : Prop := Claim7.holds Tryz.pinned (.plain (OpenSpec.upto expressionLogicSpec)) expressionLogicUptoCard

/-- THE SECOND FORM's CARD OF 'kauditlaw38.ExpressionTests'. -/
def expressionTestsUptoCard : Claim7 := { stood := { row := expressionTestsUptoRow, standIns := [], harness := (true, "8940b0fe6636f9280a428435860dd59ebadb987acd61d8c429724c97919fbdc0"), looks := true }, kinds := [], alts := [], laidByText := true, laidKinds := [.data, .data, .data, .data, .sentinel, .sentinel, .data, .data, .pinned], laidTests := true, laidLooks := .later }
def ExpressionTestsUptoCardSaid : Prop := Claim7.holds Tryz.pinned (.plain (OpenSpec.upto expressionTestsSpec)) expressionTestsUptoCard
end Rows
end Go.Proofs.YtpldopoeopjcoaaGreatDoor
