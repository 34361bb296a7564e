/-
  DERIVED. GIVEN WITH THE SEED: THE CARDS: each row of YtokkbboahajbhaaDoorRows.lean that lists a variable, with what it lists TIED to the program's text (the seventh form; the later family's looks); each row that meets fmt, with fmt's text TOLD by the authors' own Lean function (tested against real Go, not proved from fmt's source: count such statements apart). THE CARD IS WHAT COUNTS. Prove the row's statement (the work); the ties are given (YtokkbboahajbhaaDoorTie.lean); close each card by the builder's one call (the guide's Derived/Test/ToyasCard.lean, 'card_holds'). Laid BY PROGRAM, IN A SANDBOX (cutbox-door.mjs). By AI agents, Wed Nov 11 2026. No macro, syntax, notation, axiom, sorry.
-/
import Derived.Test.YtokkbboahajbhaaDoorRows
import GoSem.ClaimSeven
namespace Go.Proofs.YtokkbboahajbhaaDoor
namespace Rows

/-- THE TIED CARD OF 'kauditlaw10.CallChecks'. -/
def callChecksCard : Claim7 := { stood := { row := callChecksRow, standIns := [], harness := (true, "18d1185627fefdd82f5266e63bc226627af3c89454cae0964048b84f1e1e0c18"), looks := true }, kinds := [], alts := [], laidByText := true, laidKinds := [.data, .data, .data, .data, .data], laidTests := true, laidLooks := .later }
def CallChecksCardSaid : Prop := Claim7.holds Tryd.pinned (.plain (OpenSpec.ofChange callChecksSpec)) callChecksCard

/-- THE TIED CARD OF 'kauditlaw10.CallDiffer'. -/
def callDifferCard : Claim7 := { stood := { row := callDifferRow, standIns := [], harness := (true, "18d1185627fefdd82f5266e63bc226627af3c89454cae0964048b84f1e1e0c18"), looks := true }, kinds := [], alts := [], laidByText := true, laidKinds := [.data, .data, .data, .data, .data], laidTests := true, laidLooks := .later }
def CallDifferCardSaid : Prop := Claim7.holds Tryd.pinned (.plain (OpenSpec.ofChange callDifferSpec)) callDifferCard

/-- THE TIED CARD OF 'kauditlaw10.CallTable'. -/
def callTableCard : Claim7 := { stood := { row := callTableRow, standIns := [], harness := (true, "18d1185627fefdd82f5266e63bc226627af3c89454cae0964048b84f1e1e0c18"), looks := true }, kinds := [], alts := [], laidByText := true, laidKinds := [.data, .data, .data, .data, .data], laidTests := true, laidLooks := .later }
def CallTableCardSaid : Prop := Claim7.holds Tryd.pinned (.plain (OpenSpec.ofChange callTableSpec)) callTableCard

/-- THE TIED CARD OF 'kauditlaw10.CallParses'. -/
def callParsesCard : Claim7 := { stood := { row := callParsesRow, standIns := [], harness := (true, "18d1185627fefdd82f5266e63bc226627af3c89454cae0964048b84f1e1e0c18"), looks := true }, kinds := [], alts := [], laidByText := true, laidKinds := [.data, .data, .data, .data, .sentinel, .sentinel, .data, .data, .pinned], laidTests := true, laidLooks := .later }
def CallParsesCardSaid : Prop := Claim7.holds Tryd.pinned (.plain (OpenSpec.ofChange callParsesSpec)) callParsesCard

/-- THE TIED CARD OF 'kauditlaw10.CallBack'. -/
def callBackCard : Claim7 := { stood := { row := callBackRow, standIns := [], harness := (true, "18d1185627fefdd82f5266e63bc226627af3c89454cae0964048b84f1e1e0c18"), looks := true }, kinds := [], alts := [], laidByText := true, laidKinds := [.data, .data, .data, .data, .sentinel, .sentinel, .data, .data, .pinned], laidTests := true, laidLooks := .later }
def CallBackCardSaid : Prop := Claim7.holds Tryd.pinned (.plain (OpenSpec.ofChange callBackSpec)) callBackCard

/-- THE TIED CARD OF 'kauditlaw10.CallLimits'. -/
def callLimitsCard : Claim7 := { stood := { row := callLimitsRow, standIns := [], harness := (true, "18d1185627fefdd82f5266e63bc226627af3c89454cae0964048b84f1e1e0c18"), looks := true }, kinds := [], alts := [], laidByText := true, laidKinds := [.data, .data, .data, .data, .sentinel, .sentinel, .data, .data, .pinned], laidTests := true, laidLooks := .later }
def CallLimitsCardSaid : Prop := Claim7.holds Tryd.pinned (.plain (OpenSpec.ofChange callLimitsSpec)) callLimitsCard

/-- THE SECOND FORM's CARD OF 'kauditlaw10.CallChecks'. -/
def callChecksUptoCard : Claim7 := { stood := { row := callChecksUptoRow, standIns := [], harness := (true, "18d1185627fefdd82f5266e63bc226627af3c89454cae0964048b84f1e1e0c18"), looks := true }, kinds := [], alts := [], laidByText := true, laidKinds := [.data, .data, .data, .data, .data], laidTests := true, laidLooks := .later }
def CallChecksUptoCardSaid : Prop := Claim7.holds Tryd.pinned (.plain (OpenSpec.upto callChecksSpec)) callChecksUptoCard

/-- THE SECOND FORM's CARD OF 'kauditlaw10.CallDiffer'. -/
def callDifferUptoCard : Claim7 := { stood := { row := callDifferUptoRow, standIns := [], harness := (true, "18d1185627fefdd82f5266e63bc226627af3c89454cae0964048b84f1e1e0c18"), looks := true }, kinds := [], alts := [], laidByText := true, laidKinds := [.data, .data, .data, .data, .data], laidTests := true, laidLooks := .later }
def CallDifferUptoCardSaid : Prop := Claim7.holds Tryd.pinned (.plain (OpenSpec.upto callDifferSpec)) callDifferUptoCard

/-- THE SECOND FORM's CARD OF 'kauditlaw10.CallTable'. -/
def callTableUptoCard : Claim7 := { stood := { row := callTableUptoRow, standIns := [], harness := (true, "18d1185627fefdd82f5266e63bc226627af3c89454cae0964048b84f1e1e0c18"), looks := true }, kinds := [], alts := [], laidByText := true, laidKinds := [.data, .data, .data, .data, .data], laidTests := true, laidLooks := .later }
def CallTableUptoCardSaid : Prop := Claim7.holds Tryd.pinned (.plain (OpenSpec.upto callTableSpec)) callTableUptoCard

/-- THE SECOND FORM's CARD OF 'kauditlaw10.CallParses'. -/
def callParsesUptoCard : Claim7 := { stood := { row := callParsesUptoRow, standIns := [], harness := (true, "18d1185627fefdd82f5266e63bc226627af3c89454cae0964048b84f1e1e0c18"), looks := true }, kinds := [], alts := [], laidByText := true, laidKinds := [.data, .data, .data, .data, .sentinel, .sentinel, .data, .data, .pinned], laidTests := true, laidLooks := .later }
def CallParsesUptoCardSaid : Prop := Claim7.holds Tryd.pinned (.plain (OpenSpec.upto callParsesSpec)) callParsesUptoCard

/-- THE SECOND FORM's CARD OF 'kauditlaw10.CallBack'. -/
def callBackUptoCard : Claim7 := { stood := { row := callBackUptoRow, standIns := [], harness := (true, "18d1185627fefdd82f5266e63bc226627af3c89454cae0964048b84f1e1e0c18"), looks := true }, kinds := [], alts := [], laidByText := true, laidKinds := [.data, .data, .data, .data, .sentinel, .sentinel, .data, .data, .pinned], laidTests := true, laidLooks := .later }
def CallBackUptoCardSaid : Prop := Claim7.holds Tryd.pinned (.plain (OpenSpec.upto callBackSpec)) callBackUptoCard

/-- THE SECOND FORM's CARD OF 'kauditlaw10.CallLimits'. -/
def callLimitsUptoCard : Claim7 := { stood := { row := callLimitsUptoRow, standIns := [], harness := (true, "18d1185627fefdd82f5266e63bc226627af3c89454cae0964048b84f1e1e0c18"), looks := true }, kinds := [], alts := [], laidByText := true, laidKinds := [.data, .data, .data, .data, .sentinel, .sentinel, .data, .data, .pinned], laidTests := true, laidLooks := .later }
def CallLimitsUptoCardSaid : Prop := Claim7.holds Tryd.pinned (.plain (OpenSpec.upto callLimitsSpec)) callLimitsUptoCard
end Rows
end Go.Proofs.YtokkbboahajbhaaDoor
