/-
  DERIVED. GIVEN WITH THE SEED: THE CARDS: each row of YtollifnnpihfdaaGreatDoorRows.lean that lists a variable, with what it lists TIED to the program's text (the seventh form; the later family's looks); each row that meets fmt, with fmt's text TOLD by the authors' own Lean function (tested against real Go, not proved from fmt's source: count such statements apart). THE CARD IS WHAT COUNTS. Prove the row's statement (the work); the ties are given (YtollifnnpihfdaaGreatDoorTie.lean); close each card by the builder's one call (the guide's Derived/Test/ToyasCard.lean, 'card_holds'). Laid BY PROGRAM, IN A SANDBOX (cutbox-door.mjs). By AI agents, Wed Nov 11 2026. No macro, syntax, notation, axiom, sorry.
-/
import Derived.Test.YtollifnnpihfdaaGreatDoorRows
import GoSem.ClaimSeven
namespace Go.Proofs.YtollifnnpihfdaaGreatDoor
namespace Rows

/-- THE TIED CARD OF 'kauditlaw19.EmitEvents'. -/
def emitEventsCard : Claim7 := { stood := { row := emitEventsRow, standIns := [], harness := (true, "a46c5cf0be925bb336d1242ba599ae090c423898af1176507126ba3f13a1db09"), looks := false }, kinds := [], alts := [], laidByText := true, laidKinds := [.data, .data, .data, .data], laidTests := true, laidLooks := .later }
def EmitEventsCardSaid : Prop := Claim7.holds Tryz.pinned (.plain (OpenSpec.ofChange emitEventsSpec)) emitEventsCard

/-- THE TIED CARD OF 'kauditlaw19.EmitContexts'. -/
def emitContextsCard : Claim7 := { stood := { row := emitContextsRow, standIns := [], harness := (true, "a46c5cf0be925bb336d1242ba599ae090c423898af1176507126ba3f13a1db09"), looks := false }, kinds := [], alts := [], laidByText := true, laidKinds := [.data, .data, .data, .data], laidTests := true, laidLooks := .later }
def EmitContextsCardSaid : Prop := Claim7.holds Tryz.pinned (.plain (OpenSpec.ofChange emitContextsSpec)) emitContextsCard

/-- THE TIED CARD OF 'kauditlaw19.EmitTells'. -/
def emitTellsCard : Claim7 := { stood := { row := emitTellsRow, standIns := [], harness := (true, "a46c5cf0be925bb336d1242ba599ae090c423898af1176507126ba3f13a1db09"), looks := false }, kinds := [], alts := [], laidByText := true, laidKinds := [.data, .data, .data, .data], laidTests := true, laidLooks := .later }
def EmitTellsCardSaid : Prop := Claim7.holds Tryz.pinned (.plain (OpenSpec.ofChange emitTellsSpec)) emitTellsCard

/-- THE TIED CARD OF 'kauditlaw19.EmitExcludes'. -/
def emitExcludesCard : Claim7 := { stood := { row := emitExcludesRow, standIns := [], harness := (true, "a46c5cf0be925bb336d1242ba599ae090c423898af1176507126ba3f13a1db09"), looks := false }, kinds := [], alts := [], laidByText := true, laidKinds := [.data, .data, .data, .data], laidTests := true, laidLooks := .later }
def EmitExcludesCardSaid : Prop := Claim7.holds Tryz.pinned (.plain (OpenSpec.ofChange emitExcludesSpec)) emitExcludesCard

/-- THE TIED CARD OF 'kauditlaw19.EmitBounds'. -/
def emitBoundsCard : Claim7 := { stood := { row := emitBoundsRow, standIns := [], harness := (true, "a46c5cf0be925bb336d1242ba599ae090c423898af1176507126ba3f13a1db09"), looks := false }, kinds := [], alts := [], laidByText := true, laidKinds := [.data, .data, .data, .data], laidTests := true, laidLooks := .later }
def EmitBoundsCardSaid : Prop := Claim7.holds Tryz.pinned (.plain (OpenSpec.ofChange emitBoundsSpec)) emitBoundsCard

/-- THE TIED CARD OF 'kauditlaw19.EmitWhere'. -/
def emitWhereCard : Claim7 := { stood := { row := emitWhereRow, standIns := [], harness := (true, "a46c5cf0be925bb336d1242ba599ae090c423898af1176507126ba3f13a1db09"), looks := false }, kinds := [], alts := [], laidByText := true, laidKinds := [.data, .data, .data, .data, .data, .data, .data, .data, .data, .data, .data, .pinned], laidTests := true, laidLooks := .later }
def EmitWhereCardSaid : Prop := Claim7.holds Tryz.pinned (.plain (OpenSpec.ofChange emitWhereSpec)) emitWhereCard

/-- THE TIED CARD OF 'kauditlaw19.EmitSingles'. -/
def emitSinglesCard : Claim7 := { stood := { row := emitSinglesRow, standIns := [], harness := (true, "a46c5cf0be925bb336d1242ba599ae090c423898af1176507126ba3f13a1db09"), looks := false }, kinds := [], alts := [], laidByText := true, laidKinds := [.data, .data, .data, .data, .data, .data, .data, .data, .data, .data, .data, .pinned], laidTests := true, laidLooks := .later }
def EmitSinglesCardSaid : Prop := Claim7.holds Tryz.pinned (.plain (OpenSpec.ofChange emitSinglesSpec)) emitSinglesCard

/-- THE SECOND FORM's CARD OF 'kauditlaw19.EmitEvents'. -/
def emitEventsUptoCard : Claim7 := { stood := { row := emitEventsUptoRow, standIns := [], harness := (true, "a46c5cf0be925bb336d1242ba599ae090c423898af1176507126ba3f13a1db09"), looks := false }, kinds := [], alts := [], laidByText := true, laidKinds := [.data, .data, .data, .data], laidTests := true, laidLooks := .later }
def EmitEventsUptoCardSaid : Prop := Claim7.holds Tryz.pinned (.plain (OpenSpec.upto emitEventsSpec)) emitEventsUptoCard

/-- THE SECOND FORM's CARD OF 'kauditlaw19.EmitContexts'. -/
def emitContextsUptoCard : Claim7 := { stood := { row := emitContextsUptoRow, standIns := [], harness := (true, "a46c5cf0be925bb336d1242ba599ae090c423898af1176507126ba3f13a1db09"), looks := false }, kinds := [], alts := [], laidByText := true, laidKinds := [.data, .data, .data, .data], laidTests := true, laidLooks := .later }
def EmitContextsUptoCardSaid : Prop := Claim7.holds Tryz.pinned (.plain (OpenSpec.upto emitContextsSpec)) emitContextsUptoCard

/-- THE SECOND FORM's CARD OF 'kauditlaw19.EmitTells'. -/
def emitTellsUptoCard : Claim7 := { stood := { row := emitTellsUptoRow, standIns := [], harness := (true, "a46c5cf0be925bb336d1242ba599ae090c423898af1176507126ba3f13a1db09"), looks := false }, kinds := [], alts := [], laidByText := true, laidKinds := [.data, .data, .data, .data], laidTests := true, laidLooks := .later }
def EmitTellsUptoCardSaid : Prop := Claim7.holds Tryz.pinned (.plain (OpenSpec.upto emitTellsSpec)) emitTellsUptoCard

/-- THE SECOND FORM's CARD OF 'kauditlaw19.EmitExcludes'. -/
def emitExcludesUptoCard : Claim7 := { stood := { row := emitExcludesUptoRow, standIns := [], harness := (true, "a46c5cf0be925bb336d1242ba599ae090c423898af1176507126ba3f13a1db09"), looks := false }, kinds := [], alts := [], laidByText := true, laidKinds := [.data, .data, .data, .data], laidTests := true, laidLooks := .later }
def EmitExcludesUptoCardSaid : Prop := Claim7.holds Tryz.pinned (.plain (OpenSpec.upto emitExcludesSpec)) emitExcludesUptoCard

/-- THE SECOND FORM's CARD OF 'kauditlaw19.EmitBounds'. -/
def emitBoundsUptoCard : Claim7 := { stood := { row := emitBoundsUptoRow, standIns := [], harness := (true, "a46c5cf0be925bb336d1242ba599ae090c423898af1176507126ba3f13a1db09"), looks := false }, kinds := [], alts := [], laidByText := true, laidKinds := [.data, .data, .data, .data], laidTests := true, laidLooks := .later }
def EmitBoundsUptoCardSaid : Prop := Claim7.holds Tryz.pinned (.plain (OpenSpec.upto emitBoundsSpec)) emitBoundsUptoCard

/-- THE SECOND FORM's CARD OF 'kauditlaw19.EmitWhere'. -/
def emitWhereUptoCard : Claim7 := { stood := { row := emitWhereUptoRow, standIns := [], harness := (true, "a46c5cf0be925bb336d1242ba599ae090c423898af1176507126ba3f13a1db09"), looks := false }, kinds := [], alts := [], laidByText := true, laidKinds := [.data, .data, .data, .data, .data, .data, .data, .data, .data, .data, .data, .pinned], laidTests := true, laidLooks := .later }
def EmitWhereUptoCardSaid : Prop := Claim7.holds Tryz.pinned (.plain (OpenSpec.upto emitWhereSpec)) emitWhereUptoCard

/-- THE SECOND FORM's CARD OF 'kauditlaw19.EmitSingles'. -/
def emitSinglesUptoCard : Claim7 := { stood := { row := emitSinglesUptoRow, standIns := [], harness := (true, "a46c5cf0be925bb336d1242ba599ae090c423898af1176507126ba3f13a1db09"), looks := false }, kinds := [], alts := [], laidByText := true, laidKinds := [.data, .data, .data, .data, .data, .data, .data, .data, .data, .data, .data, .pinned], laidTests := true, laidLooks := .later }
def EmitSinglesUptoCardSaid : Prop := Claim7.holds Tryz.pinned (.plain (OpenSpec.upto emitSinglesSpec)) emitSinglesUptoCard
end Rows
end Go.Proofs.YtollifnnpihfdaaGreatDoor
