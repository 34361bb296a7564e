/-
  DERIVED. GIVEN WITH THE SEED: THE CARDS: each row of YtnpaoepkpdileaaDoorRows.lean that lists a variable, with what it lists TIED to the program's text (the seventh form; the later family's looks); each row that meets fmt, with fmt's text TOLD by the authors' own Lean function (tested against real Go, not proved from fmt's source: count such statements apart). THE CARD IS WHAT COUNTS. Prove the row's statement (the work); the ties are given (YtnpaoepkpdileaaDoorTie.lean); close each card by the builder's one call (the guide's Derived/Test/ToyasCard.lean, 'card_holds'). Laid BY PROGRAM, IN A SANDBOX (cutbox-door.mjs). By AI agents, Wed Nov 11 2026. No macro, syntax, notation, axiom, sorry.
-/
import Derived.Test.YtnpaoepkpdileaaDoorRows
import GoSem.ClaimSeven
namespace Go.Proofs.YtnpaoepkpdileaaDoor
namespace Rows

/-- THE TIED CARD OF 'kauditlaw12.FieldRaw'. -/
def fieldRawCard : Claim7 := { stood := { row := fieldRawRow, standIns := [], harness := (true, "8cc0b8f1c205f36c2991ac532818749092f3eeb109bc3b49a12f91268e4efc8a"), looks := true }, kinds := [], alts := [], laidByText := true, laidKinds := [.data, .data, .data, .data, .data, .data], laidTests := true, laidLooks := .later }
def FieldRawCardSaid : Prop := Claim7.holds Tryd.pinned (.plain (OpenSpec.ofChange fieldRawSpec)) fieldRawCard

/-- THE TIED CARD OF 'kauditlaw12.FieldBuilt'. -/
def fieldBuiltCard : Claim7 := { stood := { row := fieldBuiltRow, standIns := [], harness := (true, "8cc0b8f1c205f36c2991ac532818749092f3eeb109bc3b49a12f91268e4efc8a"), looks := true }, kinds := [], alts := [], laidByText := true, laidKinds := [.data, .data, .data, .data, .data, .data], laidTests := true, laidLooks := .later }
def FieldBuiltCardSaid : Prop := Claim7.holds Tryd.pinned (.plain (OpenSpec.ofChange fieldBuiltSpec)) fieldBuiltCard

/-- THE TIED CARD OF 'kauditlaw12.FieldOpposite'. -/
def fieldOppositeCard : Claim7 := { stood := { row := fieldOppositeRow, standIns := [], harness := (true, "8cc0b8f1c205f36c2991ac532818749092f3eeb109bc3b49a12f91268e4efc8a"), looks := true }, kinds := [], alts := [], laidByText := true, laidKinds := [.data, .data, .data, .data, .data, .data], laidTests := true, laidLooks := .later }
def FieldOppositeCardSaid : Prop := Claim7.holds Tryd.pinned (.plain (OpenSpec.ofChange fieldOppositeSpec)) fieldOppositeCard

/-- THE TIED CARD OF 'kauditlaw12.FieldItems'. -/
def fieldItemsCard : Claim7 := { stood := { row := fieldItemsRow, standIns := [], harness := (true, "8cc0b8f1c205f36c2991ac532818749092f3eeb109bc3b49a12f91268e4efc8a"), looks := true }, kinds := [], alts := [], laidByText := true, laidKinds := [.data, .data, .data, .data, .data, .data], laidTests := true, laidLooks := .later }
def FieldItemsCardSaid : Prop := Claim7.holds Tryd.pinned (.plain (OpenSpec.ofChange fieldItemsSpec)) fieldItemsCard

/-- THE TIED CARD OF 'kauditlaw12.FieldNames'. -/
def fieldNamesCard : Claim7 := { stood := { row := fieldNamesRow, standIns := [], harness := (true, "8cc0b8f1c205f36c2991ac532818749092f3eeb109bc3b49a12f91268e4efc8a"), looks := true }, kinds := [], alts := [], laidByText := true, laidKinds := [.data, .data, .data, .data, .data, .data], laidTests := true, laidLooks := .later }
def FieldNamesCardSaid : Prop := Claim7.holds Tryd.pinned (.plain (OpenSpec.ofChange fieldNamesSpec)) fieldNamesCard

/-- THE TIED CARD OF 'kauditlaw12.FieldParses'. -/
def fieldParsesCard : Claim7 := { stood := { row := fieldParsesRow, standIns := [], harness := (true, "8cc0b8f1c205f36c2991ac532818749092f3eeb109bc3b49a12f91268e4efc8a"), looks := true }, kinds := [], alts := [], laidByText := true, laidKinds := [.data, .data, .data, .sentinel, .sentinel, .data, .data, .data], laidTests := true, laidLooks := .later }
def FieldParsesCardSaid : Prop := Claim7.holds Tryd.pinned (.plain (OpenSpec.ofChange fieldParsesSpec)) fieldParsesCard

/-- THE TIED CARD OF 'kauditlaw12.FieldBack'. -/
def fieldBackCard : Claim7 := { stood := { row := fieldBackRow, standIns := [], harness := (true, "8cc0b8f1c205f36c2991ac532818749092f3eeb109bc3b49a12f91268e4efc8a"), looks := true }, kinds := [], alts := [], laidByText := true, laidKinds := [.data, .data, .data, .sentinel, .sentinel, .data, .data, .data], laidTests := true, laidLooks := .later }
def FieldBackCardSaid : Prop := Claim7.holds Tryd.pinned (.plain (OpenSpec.ofChange fieldBackSpec)) fieldBackCard

/-- THE SECOND FORM's CARD OF 'kauditlaw12.FieldRaw'. -/
def fieldRawUptoCard : Claim7 := { stood := { row := fieldRawUptoRow, standIns := [], harness := (true, "8cc0b8f1c205f36c2991ac532818749092f3eeb109bc3b49a12f91268e4efc8a"), looks := true }, kinds := [], alts := [], laidByText := true, laidKinds := [.data, .data, .data, .data, .data, .data], laidTests := true, laidLooks := .later }
def FieldRawUptoCardSaid : Prop := Claim7.holds Tryd.pinned (.plain (OpenSpec.upto fieldRawSpec)) fieldRawUptoCard

/-- THE SECOND FORM's CARD OF 'kauditlaw12.FieldBuilt'. -/
def fieldBuiltUptoCard : Claim7 := { stood := { row := fieldBuiltUptoRow, standIns := [], harness := (true, "8cc0b8f1c205f36c2991ac532818749092f3eeb109bc3b49a12f91268e4efc8a"), looks := true }, kinds := [], alts := [], laidByText := true, laidKinds := [.data, .data, .data, .data, .data, .data], laidTests := true, laidLooks := .later }
def FieldBuiltUptoCardSaid : Prop := Claim7.holds Tryd.pinned (.plain (OpenSpec.upto fieldBuiltSpec)) fieldBuiltUptoCard

/-- THE SECOND FORM's CARD OF 'kauditlaw12.FieldOpposite'. -/
def fieldOppositeUptoCard : Claim7 := { stood := { row := fieldOppositeUptoRow, standIns := [], harness := (true, "8cc0b8f1c205f36c2991ac532818749092f3eeb109bc3b49a12f91268e4efc8a"), looks := true }, kinds := [], alts := [], laidByText := true, laidKinds := [.data, .data, .data, .data, .data, .data], laidTests := true, laidLooks := .later }
def FieldOppositeUptoCardSaid : Prop := Claim7.holds Tryd.pinned (.plain (OpenSpec.upto fieldOppositeSpec)) fieldOppositeUptoCard

/-- THE SECOND FORM's CARD OF 'kauditlaw12.FieldItems'. -/
def fieldItemsUptoCard : Claim7 := { stood := { row := fieldItemsUptoRow, standIns := [], harness := (true, "8cc0b8f1c205f36c2991ac532818749092f3eeb109bc3b49a12f91268e4efc8a"), looks := true }, kinds := [], alts := [], laidByText := true, laidKinds := [.data, .data, .data, .data, .data, .data], laidTests := true, laidLooks := .later }
def FieldItemsUptoCardSaid : Prop := Claim7.holds Tryd.pinned (.plain (OpenSpec.upto fieldItemsSpec)) fieldItemsUptoCard

/-- THE SECOND FORM's CARD OF 'kauditlaw12.FieldNames'. -/
def fieldNamesUptoCard : Claim7 := { stood := { row := fieldNamesUptoRow, standIns := [], harness := (true, "8cc0b8f1c205f36c2991ac532818749092f3eeb109bc3b49a12f91268e4efc8a"), looks := true }, kinds := [], alts := [], laidByText := true, laidKinds := [.data, .data, .data, .data, .data, .data], laidTests := true, laidLooks := .later }
def FieldNamesUptoCardSaid : Prop := Claim7.holds Tryd.pinned (.plain (OpenSpec.upto fieldNamesSpec)) fieldNamesUptoCard

/-- THE SECOND FORM's CARD OF 'kauditlaw12.FieldParses'. -/
def fieldParsesUptoCard : Claim7 := { stood := { row := fieldParsesUptoRow, standIns := [], harness := (true, "8cc0b8f1c205f36c2991ac532818749092f3eeb109bc3b49a12f91268e4efc8a"), looks := true }, kinds := [], alts := [], laidByText := true, laidKinds := [.data, .data, .data, .sentinel, .sentinel, .data, .data, .data], laidTests := true, laidLooks := .later }
def FieldParsesUptoCardSaid : Prop := Claim7.holds Tryd.pinned (.plain (OpenSpec.upto fieldParsesSpec)) fieldParsesUptoCard

/-- THE SECOND FORM's CARD OF 'kauditlaw12.FieldBack'. -/
def fieldBackUptoCard : Claim7 := { stood := { row := fieldBackUptoRow, standIns := [], harness := (true, "8cc0b8f1c205f36c2991ac532818749092f3eeb109bc3b49a12f91268e4efc8a"), looks := true }, kinds := [], alts := [], laidByText := true, laidKinds := [.data, .data, .data, .sentinel, .sentinel, .data, .data, .data], laidTests := true, laidLooks := .later }
def FieldBackUptoCardSaid : Prop := Claim7.holds Tryd.pinned (.plain (OpenSpec.upto fieldBackSpec)) fieldBackUptoCard
end Rows
end Go.Proofs.YtnpaoepkpdileaaDoor
