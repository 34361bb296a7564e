/-
  DERIVED. GIVEN WITH THE SEED: THE CARDS: each row of YtllomoplpoeggaaDoorRows.lean that lists a variable, with what it lists TIED to the program's text (the seventh form; the later family's looks); each row that meets fmt, with fmt's text TOLD by the authors' own Lean function (tested against real Go, not proved from fmt's source: count such statements apart). THE CARD IS WHAT COUNTS. Prove the row's statement (the work); the ties are given (YtllomoplpoeggaaDoorTie.lean); close each card by the builder's one call (the guide's Derived/Test/ToyasCard.lean, 'card_holds'). Laid BY PROGRAM, IN A SANDBOX (cutbox-door.mjs). By AI agents, Wed Nov 11 2026. No macro, syntax, notation, axiom, sorry.
-/
import Derived.Test.YtllomoplpoeggaaDoorRows
import GoSem.ClaimSeven
namespace Go.Proofs.YtllomoplpoeggaaDoor
namespace Rows

/-- THE TIED CARD OF 'kauditlaw01.MaskOfs'. -/
def maskOfsCard : Claim7 := { stood := { row := maskOfsRow, standIns := [], harness := (true, "38360d3bf360a34e78467335d458a278cd6de6b32dd2d6312d86c377d26bd3c2"), looks := false }, kinds := [], alts := [], laidByText := true, laidKinds := [.data, .data, .data], laidTests := true, laidLooks := .later }
def MaskOfsCardSaid : Prop := Claim7.holds Tryd.pinned (.plain (OpenSpec.ofChange maskOfsSpec)) maskOfsCard

/-- THE TIED CARD OF 'kauditlaw01.MaskReads'. -/
def maskReadsCard : Claim7 := { stood := { row := maskReadsRow, standIns := [], harness := (true, "38360d3bf360a34e78467335d458a278cd6de6b32dd2d6312d86c377d26bd3c2"), looks := false }, kinds := [], alts := [], laidByText := true, laidKinds := [.data, .data, .data], laidTests := true, laidLooks := .later }
def MaskReadsCardSaid : Prop := Claim7.holds Tryd.pinned (.plain (OpenSpec.ofChange maskReadsSpec)) maskReadsCard

/-- THE TIED CARD OF 'kauditlaw01.MaskMembers'. -/
def maskMembersCard : Claim7 := { stood := { row := maskMembersRow, standIns := [], harness := (true, "38360d3bf360a34e78467335d458a278cd6de6b32dd2d6312d86c377d26bd3c2"), looks := false }, kinds := [], alts := [], laidByText := true, laidKinds := [.data, .data, .data], laidTests := true, laidLooks := .later }
def MaskMembersCardSaid : Prop := Claim7.holds Tryd.pinned (.plain (OpenSpec.ofChange maskMembersSpec)) maskMembersCard

/-- THE TIED CARD OF 'kauditlaw01.MaskParses'. -/
def maskParsesCard : Claim7 := { stood := { row := maskParsesRow, standIns := [], harness := (true, "38360d3bf360a34e78467335d458a278cd6de6b32dd2d6312d86c377d26bd3c2"), looks := false }, kinds := [], alts := [], laidByText := true, laidKinds := [.data, .data, .data, .data, .pinned], laidTests := true, laidLooks := .later }
def MaskParsesCardSaid : Prop := Claim7.holds Tryd.pinned (.plain (OpenSpec.ofChange maskParsesSpec)) maskParsesCard

/-- THE TIED CARD OF 'kauditlaw01.MaskBuilt'. -/
def maskBuiltCard : Claim7 := { stood := { row := maskBuiltRow, standIns := [], harness := (true, "38360d3bf360a34e78467335d458a278cd6de6b32dd2d6312d86c377d26bd3c2"), looks := false }, kinds := [], alts := [], laidByText := true, laidKinds := [.data, .data, .data, .data, .pinned], laidTests := true, laidLooks := .later }
def MaskBuiltCardSaid : Prop := Claim7.holds Tryd.pinned (.plain (OpenSpec.ofChange maskBuiltSpec)) maskBuiltCard

/-- THE TIED CARD OF 'kauditlaw01.MaskBack'. -/
def maskBackCard : Claim7 := { stood := { row := maskBackRow, standIns := [], harness := (true, "38360d3bf360a34e78467335d458a278cd6de6b32dd2d6312d86c377d26bd3c2"), looks := false }, kinds := [], alts := [], laidByText := true, laidKinds := [.data, .data, .data, .data, .pinned], laidTests := true, laidLooks := .later }
def MaskBackCardSaid : Prop := Claim7.holds Tryd.pinned (.plain (OpenSpec.ofChange maskBackSpec)) maskBackCard

/-- THE TIED CARD OF 'kauditlaw01.MaskShortest'. -/
def maskShortestCard : Claim7 := { stood := { row := maskShortestRow, standIns := [], harness := (true, "38360d3bf360a34e78467335d458a278cd6de6b32dd2d6312d86c377d26bd3c2"), looks := false }, kinds := [], alts := [], laidByText := true, laidKinds := [.data, .data, .data, .data, .pinned], laidTests := true, laidLooks := .later }
def MaskShortestCardSaid : Prop := Claim7.holds Tryd.pinned (.plain (OpenSpec.ofChange maskShortestSpec)) maskShortestCard

/-- THE SECOND FORM's CARD OF 'kauditlaw01.MaskOfs'. -/
def maskOfsUptoCard : Claim7 := { stood := { row := maskOfsUptoRow, standIns := [], harness := (true, "38360d3bf360a34e78467335d458a278cd6de6b32dd2d6312d86c377d26bd3c2"), looks := false }, kinds := [], alts := [], laidByText := true, laidKinds := [.data, .data, .data], laidTests := true, laidLooks := .later }
def MaskOfsUptoCardSaid : Prop := Claim7.holds Tryd.pinned (.plain (OpenSpec.upto maskOfsSpec)) maskOfsUptoCard

/-- THE SECOND FORM's CARD OF 'kauditlaw01.MaskReads'. -/
def maskReadsUptoCard : Claim7 := { stood := { row := maskReadsUptoRow, standIns := [], harness := (true, "38360d3bf360a34e78467335d458a278cd6de6b32dd2d6312d86c377d26bd3c2"), looks := false }, kinds := [], alts := [], laidByText := true, laidKinds := [.data, .data, .data], laidTests := true, laidLooks := .later }
def MaskReadsUptoCardSaid : Prop := Claim7.holds Tryd.pinned (.plain (OpenSpec.upto maskReadsSpec)) maskReadsUptoCard

/-- THE SECOND FORM's CARD OF 'kauditlaw01.MaskMembers'. -/
def maskMembersUptoCard : Claim7 := { stood := { row := maskMembersUptoRow, standIns := [], harness := (true, "38360d3bf360a34e78467335d458a278cd6de6b32dd2d6312d86c377d26bd3c2"), looks := false }, kinds := [], alts := [], laidByText := true, laidKinds := [.data, .data, .data], laidTests := true, laidLooks := .later }
def MaskMembersUptoCardSaid : Prop := Claim7.holds Tryd.pinned (.plain (OpenSpec.upto maskMembersSpec)) maskMembersUptoCard

/-- THE SECOND FORM's CARD OF 'kauditlaw01.MaskParses'. -/
def maskParsesUptoCard : Claim7 := { stood := { row := maskParsesUptoRow, standIns := [], harness := (true, "38360d3bf360a34e78467335d458a278cd6de6b32dd2d6312d86c377d26bd3c2"), looks := false }, kinds := [], alts := [], laidByText := true, laidKinds := [.data, .data, .data, .data, .pinned], laidTests := true, laidLooks := .later }
def MaskParsesUptoCardSaid : Prop := Claim7.holds Tryd.pinned (.plain (OpenSpec.upto maskParsesSpec)) maskParsesUptoCard

/-- THE SECOND FORM's CARD OF 'kauditlaw01.MaskBuilt'. -/
def maskBuiltUptoCard : Claim7 := { stood := { row := maskBuiltUptoRow, standIns := [], harness := (true, "38360d3bf360a34e78467335d458a278cd6de6b32dd2d6312d86c377d26bd3c2"), looks := false }, kinds := [], alts := [], laidByText := true, laidKinds := [.data, .data, .data, .data, .pinned], laidTests := true, laidLooks := .later }
def MaskBuiltUptoCardSaid : Prop := Claim7.holds Tryd.pinned (.plain (OpenSpec.upto maskBuiltSpec)) maskBuiltUptoCard

/-- THE SECOND FORM's CARD OF 'kauditlaw01.MaskBack'. -/
def maskBackUptoCard : Claim7 := { stood := { row := maskBackUptoRow, standIns := [], harness := (true, "38360d3bf360a34e78467335d458a278cd6de6b32dd2d6312d86c377d26bd3c2"), looks := false }, kinds := [], alts := [], laidByText := true, laidKinds := [.data, .data, .data, .data, .pinned], laidTests := true, laidLooks := .later }
def MaskBackUptoCardSaid : Prop := Claim7.holds Tryd.pinned (.plain (OpenSpec.upto maskBackSpec)) maskBackUptoCard

/-- THE SECOND FORM's CARD OF 'kauditlaw01.MaskShortest'. -/
def maskShortestUptoCard : Claim7 := { stood := { row := maskShortestUptoRow, standIns := [], harness := (true, "38360d3bf360a34e78467335d458a278cd6de6b32dd2d6312d86c377d26bd3c2"), looks := false }, kinds := [], alts := [], laidByText := true, laidKinds := [.data, .data, .data, .data, .pinned], laidTests := true, laidLooks := .later }
def MaskShortestUptoCardSaid : Prop := Claim7.holds Tryd.pinned (.plain (OpenSpec.upto maskShortestSpec)) maskShortestUptoCard
end Rows
end Go.Proofs.YtllomoplpoeggaaDoor
