/-
  DERIVED. GIVEN WITH THE SEED: THE CARDS: each row of YthidojkckhjciaaDoorRows.lean that lists a variable, with what it lists TIED to the program's text (the seventh form; the later family's looks); each row that meets fmt, with fmt's text TOLD by the authors' own Lean function (tested against real Go, not proved from fmt's source: count such statements apart). THE CARD IS WHAT COUNTS. Prove the row's statement (the work); the ties are given (YthidojkckhjciaaDoorTie.lean); close each card by the builder's one call (the guide's Derived/Test/ToyasCard.lean, 'card_holds'). Laid BY PROGRAM, IN A SANDBOX (cutbox-door.mjs). By AI agents, Wed Nov 11 2026. No macro, syntax, notation, axiom, sorry.
-/
import Derived.Test.YthidojkckhjciaaDoorRows
import GoSem.ClaimSeven
namespace Go.Proofs.YthidojkckhjciaaDoor
namespace Rows

/-- THE TIED CARD OF 'kauditlaw02.ValueQuotes'. -/
def valueQuotesCard : Claim7 := { stood := { row := valueQuotesRow, standIns := [], harness := (true, "f509902e415e171a29194d1358faa325bb0d12d1a6a1498f70320b72177725f5"), looks := true }, kinds := [], alts := [], laidByText := true, laidKinds := [.data], laidTests := true, laidLooks := .later }
def ValueQuotesCardSaid : Prop := Claim7.holds Tryd.pinned (.plain (OpenSpec.ofChange valueQuotesSpec)) valueQuotesCard

/-- THE TIED CARD OF 'kauditlaw02.ValueUnquotes'. -/
def valueUnquotesCard : Claim7 := { stood := { row := valueUnquotesRow, standIns := [], harness := (true, "f509902e415e171a29194d1358faa325bb0d12d1a6a1498f70320b72177725f5"), looks := true }, kinds := [], alts := [], laidByText := true, laidKinds := [.data], laidTests := true, laidLooks := .later }
def ValueUnquotesCardSaid : Prop := Claim7.holds Tryd.pinned (.plain (OpenSpec.ofChange valueUnquotesSpec)) valueUnquotesCard

/-- THE TIED CARD OF 'kauditlaw02.ValueLimits'. -/
def valueLimitsCard : Claim7 := { stood := { row := valueLimitsRow, standIns := [], harness := (true, "f509902e415e171a29194d1358faa325bb0d12d1a6a1498f70320b72177725f5"), looks := true }, kinds := [], alts := [], laidByText := true, laidKinds := [.data], laidTests := true, laidLooks := .later }
def ValueLimitsCardSaid : Prop := Claim7.holds Tryd.pinned (.plain (OpenSpec.ofChange valueLimitsSpec)) valueLimitsCard

/-- THE TIED CARD OF 'kauditlaw02.ValuePairs'. -/
def valuePairsCard : Claim7 := { stood := { row := valuePairsRow, standIns := [], harness := (true, "f509902e415e171a29194d1358faa325bb0d12d1a6a1498f70320b72177725f5"), looks := true }, kinds := [], alts := [], laidByText := true, laidKinds := [.data, .data, .data, .data], laidTests := true, laidLooks := .later }
def ValuePairsCardSaid : Prop := Claim7.holds Tryd.pinned (.plain (OpenSpec.ofChange valuePairsSpec)) valuePairsCard

/-- THE TIED CARD OF 'kauditlaw02.ValueDiffer'. -/
def valueDifferCard : Claim7 := { stood := { row := valueDifferRow, standIns := [], harness := (true, "f509902e415e171a29194d1358faa325bb0d12d1a6a1498f70320b72177725f5"), looks := true }, kinds := [], alts := [], laidByText := true, laidKinds := [.data, .data, .data, .data], laidTests := true, laidLooks := .later }
def ValueDifferCardSaid : Prop := Claim7.holds Tryd.pinned (.plain (OpenSpec.ofChange valueDifferSpec)) valueDifferCard

/-- THE TIED CARD OF 'kauditlaw02.ValueParses'. -/
def valueParsesCard : Claim7 := { stood := { row := valueParsesRow, standIns := [], harness := (true, "f509902e415e171a29194d1358faa325bb0d12d1a6a1498f70320b72177725f5"), looks := true }, kinds := [], alts := [], laidByText := true, laidKinds := [.data, .data, .data, .sentinel, .sentinel, .data], laidTests := true, laidLooks := .later }
def ValueParsesCardSaid : Prop := Claim7.holds Tryd.pinned (.plain (OpenSpec.ofChange valueParsesSpec)) valueParsesCard

/-- THE TIED CARD OF 'kauditlaw02.ValueBuilt'. -/
def valueBuiltCard : Claim7 := { stood := { row := valueBuiltRow, standIns := [], harness := (true, "f509902e415e171a29194d1358faa325bb0d12d1a6a1498f70320b72177725f5"), looks := true }, kinds := [], alts := [], laidByText := true, laidKinds := [.data, .data, .data, .sentinel, .sentinel, .data], laidTests := true, laidLooks := .later }
def ValueBuiltCardSaid : Prop := Claim7.holds Tryd.pinned (.plain (OpenSpec.ofChange valueBuiltSpec)) valueBuiltCard

/-- THE TIED CARD OF 'kauditlaw02.ValueBack'. -/
def valueBackCard : Claim7 := { stood := { row := valueBackRow, standIns := [], harness := (true, "f509902e415e171a29194d1358faa325bb0d12d1a6a1498f70320b72177725f5"), looks := true }, kinds := [], alts := [], laidByText := true, laidKinds := [.data, .data, .data, .sentinel, .sentinel, .data], laidTests := true, laidLooks := .later }
def ValueBackCardSaid : Prop := Claim7.holds Tryd.pinned (.plain (OpenSpec.ofChange valueBackSpec)) valueBackCard

/-- THE SECOND FORM's CARD OF 'kauditlaw02.ValueQuotes'. -/
def valueQuotesUptoCard : Claim7 := { stood := { row := valueQuotesUptoRow, standIns := [], harness := (true, "f509902e415e171a29194d1358faa325bb0d12d1a6a1498f70320b72177725f5"), looks := true }, kinds := [], alts := [], laidByText := true, laidKinds := [.data], laidTests := true, laidLooks := .later }
def ValueQuotesUptoCardSaid : Prop := Claim7.holds Tryd.pinned (.plain (OpenSpec.upto valueQuotesSpec)) valueQuotesUptoCard

/-- THE SECOND FORM's CARD OF 'kauditlaw02.ValueUnquotes'. -/
def valueUnquotesUptoCard : Claim7 := { stood := { row := valueUnquotesUptoRow, standIns := [], harness := (true, "f509902e415e171a29194d1358faa325bb0d12d1a6a1498f70320b72177725f5"), looks := true }, kinds := [], alts := [], laidByText := true, laidKinds := [.data], laidTests := true, laidLooks := .later }
def ValueUnquotesUptoCardSaid : Prop := Claim7.holds Tryd.pinned (.plain (OpenSpec.upto valueUnquotesSpec)) valueUnquotesUptoCard

/-- THE SECOND FORM's CARD OF 'kauditlaw02.ValueLimits'. -/
def valueLimitsUptoCard : Claim7 := { stood := { row := valueLimitsUptoRow, standIns := [], harness := (true, "f509902e415e171a29194d1358faa325bb0d12d1a6a1498f70320b72177725f5"), looks := true }, kinds := [], alts := [], laidByText := true, laidKinds := [.data], laidTests := true, laidLooks := .later }
def ValueLimitsUptoCardSaid : Prop := Claim7.holds Tryd.pinned (.plain (OpenSpec.upto valueLimitsSpec)) valueLimitsUptoCard

/-- THE SECOND FORM's CARD OF 'kauditlaw02.ValuePairs'. -/
def valuePairsUptoCard : Claim7 := { stood := { row := valuePairsUptoRow, standIns := [], harness := (true, "f509902e415e171a29194d1358faa325bb0d12d1a6a1498f70320b72177725f5"), looks := true }, kinds := [], alts := [], laidByText := true, laidKinds := [.data, .data, .data, .data], laidTests := true, laidLooks := .later }
def ValuePairsUptoCardSaid : Prop := Claim7.holds Tryd.pinned (.plain (OpenSpec.upto valuePairsSpec)) valuePairsUptoCard

/-- THE SECOND FORM's CARD OF 'kauditlaw02.ValueDiffer'. -/
def valueDifferUptoCard : Claim7 := { stood := { row := valueDifferUptoRow, standIns := [], harness := (true, "f509902e415e171a29194d1358faa325bb0d12d1a6a1498f70320b72177725f5"), looks := true }, kinds := [], alts := [], laidByText := true, laidKinds := [.data, .data, .data, .data], laidTests := true, laidLooks := .later }
def ValueDifferUptoCardSaid : Prop := Claim7.holds Tryd.pinned (.plain (OpenSpec.upto valueDifferSpec)) valueDifferUptoCard

/-- THE SECOND FORM's CARD OF 'kauditlaw02.ValueParses'. -/
def valueParsesUptoCard : Claim7 := { stood := { row := valueParsesUptoRow, standIns := [], harness := (true, "f509902e415e171a29194d1358faa325bb0d12d1a6a1498f70320b72177725f5"), looks := true }, kinds := [], alts := [], laidByText := true, laidKinds := [.data, .data, .data, .sentinel, .sentinel, .data], laidTests := true, laidLooks := .later }
def ValueParsesUptoCardSaid : Prop := Claim7.holds Tryd.pinned (.plain (OpenSpec.upto valueParsesSpec)) valueParsesUptoCard

/-- THE SECOND FORM's CARD OF 'kauditlaw02.ValueBuilt'. -/
def valueBuiltUptoCard : Claim7 := { stood := { row := valueBuiltUptoRow, standIns := [], harness := (true, "f509902e415e171a29194d1358faa325bb0d12d1a6a1498f70320b72177725f5"), looks := true }, kinds := [], alts := [], laidByText := true, laidKinds := [.data, .data, .data, .sentinel, .sentinel, .data], laidTests := true, laidLooks := .later }
def ValueBuiltUptoCardSaid : Prop := Claim7.holds Tryd.pinned (.plain (OpenSpec.upto valueBuiltSpec)) valueBuiltUptoCard

/-- THE SECOND FORM's CARD OF 'kauditlaw02.ValueBack'. -/
def valueBackUptoCard : Claim7 := { stood := { row := valueBackUptoRow, standIns := [], harness := (true, "f509902e415e171a29194d1358faa325bb0d12d1a6a1498f70320b72177725f5"), looks := true }, kinds := [], alts := [], laidByText := true, laidKinds := [.data, .data, .data, .sentinel, .sentinel, .data], laidTests := true, laidLooks := .later }
def ValueBackUptoCardSaid : Prop := Claim7.holds Tryd.pinned (.plain (OpenSpec.upto valueBackSpec)) valueBackUptoCard
end Rows
end Go.Proofs.YthidojkckhjciaaDoor
