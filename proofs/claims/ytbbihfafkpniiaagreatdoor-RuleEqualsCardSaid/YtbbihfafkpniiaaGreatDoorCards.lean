/-
  DERIVED. GIVEN WITH THE SEED: THE CARDS: each row of YtbbihfafkpniiaaGreatDoorRows.lean that lists a variable, with what it lists TIED to the program's text (the seventh form; the later family's looks); each row that meets fmt, with fmt's text TOLD by the authors' own Lean function (tested against real Go, not proved from fmt's source: count such statements apart). THE CARD IS WHAT COUNTS. Prove the row's statement (the work); the ties are given (YtbbihfafkpniiaaGreatDoorTie.lean); close each card by the builder's one call (the guide's Derived/Test/ToyasCard.lean, 'card_holds'). Laid BY PROGRAM, IN A SANDBOX (cutbox-door.mjs). By AI agents, Wed Nov 11 2026. No macro, syntax, notation, axiom, sorry.
-/
import Derived.Test.YtbbihfafkpniiaaGreatDoorRows
import GoSem.ClaimSeven
namespace Go.Proofs.YtbbihfafkpniiaaGreatDoor
namespace Rows

/-- THE TIED CARD OF 'kauditlaw13.RuleChecks'. -/
def ruleChecksCard : Claim7 := { stood := { row := ruleChecksRow, standIns := [], harness := (true, "45600094d082f2db1e42b89f026ba94d8a69d2e1f3ef41f375bfae8aea806f53"), looks := true }, kinds := [], alts := [], laidByText := true, laidKinds := [.data, .data, .data, .data, .sentinel, .sentinel, .data, .data, .data, .data, .data, .data, .pinned], laidTests := true, laidLooks := .later }
def RuleChecksCardSaid : Prop := Claim7.holds Tryz.pinned (.plain (OpenSpec.ofChange ruleChecksSpec)) ruleChecksCard

/-- THE TIED CARD OF 'kauditlaw13.RuleBuilt'. -/
def ruleBuiltCard : Claim7 := { stood := { row := ruleBuiltRow, standIns := [], harness := (true, "45600094d082f2db1e42b89f026ba94d8a69d2e1f3ef41f375bfae8aea806f53"), looks := true }, kinds := [], alts := [], laidByText := true, laidKinds := [.data, .data, .data, .data, .sentinel, .sentinel, .data, .data, .data, .data, .data, .data, .pinned], laidTests := true, laidLooks := .later }
def RuleBuiltCardSaid : Prop := Claim7.holds Tryz.pinned (.plain (OpenSpec.ofChange ruleBuiltSpec)) ruleBuiltCard

/-- THE TIED CARD OF 'kauditlaw13.RuleParses'. -/
def ruleParsesCard : Claim7 := { stood := { row := ruleParsesRow, standIns := [], harness := (true, "45600094d082f2db1e42b89f026ba94d8a69d2e1f3ef41f375bfae8aea806f53"), looks := true }, kinds := [], alts := [], laidByText := true, laidKinds := [.data, .data, .data, .data, .sentinel, .sentinel, .data, .data, .data, .data, .data, .data, .pinned], laidTests := true, laidLooks := .later }
def RuleParsesCardSaid : Prop := Claim7.holds Tryz.pinned (.plain (OpenSpec.ofChange ruleParsesSpec)) ruleParsesCard

/-- THE TIED CARD OF 'kauditlaw13.RuleTexts'. -/
def ruleTextsCard : Claim7 := { stood := { row := ruleTextsRow, standIns := [], harness := (true, "45600094d082f2db1e42b89f026ba94d8a69d2e1f3ef41f375bfae8aea806f53"), looks := true }, kinds := [], alts := [], laidByText := true, laidKinds := [.data, .data, .data, .data, .sentinel, .sentinel, .data, .data, .data, .data, .data, .data, .pinned], laidTests := true, laidLooks := .later }
def RuleTextsCardSaid : Prop := Claim7.holds Tryz.pinned (.plain (OpenSpec.ofChange ruleTextsSpec)) ruleTextsCard

/-- THE TIED CARD OF 'kauditlaw13.RuleDiffer'. -/
def ruleDifferCard : Claim7 := { stood := { row := ruleDifferRow, standIns := [], harness := (true, "45600094d082f2db1e42b89f026ba94d8a69d2e1f3ef41f375bfae8aea806f53"), looks := true }, kinds := [], alts := [], laidByText := true, laidKinds := [.data, .data, .data, .data, .sentinel, .sentinel, .data, .data, .data, .data, .data, .data, .pinned], laidTests := true, laidLooks := .later }
def RuleDifferCardSaid : Prop := Claim7.holds Tryz.pinned (.plain (OpenSpec.ofChange ruleDifferSpec)) ruleDifferCard

/-- THE TIED CARD OF 'kauditlaw13.RuleBack'. -/
def ruleBackCard : Claim7 := { stood := { row := ruleBackRow, standIns := [], harness := (true, "45600094d082f2db1e42b89f026ba94d8a69d2e1f3ef41f375bfae8aea806f53"), looks := true }, kinds := [], alts := [], laidByText := true, laidKinds := [.data, .data, .data, .data, .sentinel, .sentinel, .data, .data, .data, .data, .data, .data, .pinned], laidTests := true, laidLooks := .later }
def RuleBackCardSaid : Prop := Claim7.holds Tryz.pinned (.plain (OpenSpec.ofChange ruleBackSpec)) ruleBackCard

/-- THE TIED CARD OF 'kauditlaw13.RuleEquals'. -/
def ruleEqualsCard : Claim7 := { stood := { row := ruleEqualsRow, standIns := [], harness := (true, "45600094d082f2db1e42b89f026ba94d8a69d2e1f3ef41f375bfae8aea806f53"), looks := true }, kinds := [], alts := [], laidByText := true, laidKinds := [.data, .data, .data, .data, .sentinel, .sentinel, .data, .data, .data, .data, .data, .data, .pinned], laidTests := true, laidLooks := .later }
def RuleEqualsCardSaid : Prop := Claim7.holds Tryz.pinned (.plain (OpenSpec.ofChange ruleEqualsSpec)) ruleEqualsCard

/-- THE SECOND FORM's CARD OF 'kauditlaw13.RuleChecks'. -/
def ruleChecksUptoCard : Claim7 := { stood := { row := ruleChecksUptoRow, standIns := [], harness := (true, "45600094d082f2db1e42b89f026ba94d8a69d2e1f3ef41f375bfae8aea806f53"), looks := true }, kinds := [], alts := [], laidByText := true, laidKinds := [.data, .data, .data, .data, .sentinel, .sentinel, .data, .data, .data, .data, .data, .data, .pinned], laidTests := true, laidLooks := .later }
def RuleChecksUptoCardSaid : Prop := Claim7.holds Tryz.pinned (.plain (OpenSpec.upto ruleChecksSpec)) ruleChecksUptoCard

/-- THE SECOND FORM's CARD OF 'kauditlaw13.RuleBuilt'. -/
def ruleBuiltUptoCard : Claim7 := { stood := { row := ruleBuiltUptoRow, standIns := [], harness := (true, "45600094d082f2db1e42b89f026ba94d8a69d2e1f3ef41f375bfae8aea806f53"), looks := true }, kinds := [], alts := [], laidByText := true, laidKinds := [.data, .data, .data, .data, .sentinel, .sentinel, .data, .data, .data, .data, .data, .data, .pinned], laidTests := true, laidLooks := .later }
def RuleBuiltUptoCardSaid : Prop := Claim7.holds Tryz.pinned (.plain (OpenSpec.upto ruleBuiltSpec)) ruleBuiltUptoCard

/-- THE SECOND FORM's CARD OF 'kauditlaw13.RuleParses'. -/
def ruleParsesUptoCard : Claim7 := { stood := { row := ruleParsesUptoRow, standIns := [], harness := (true, "45600094d082f2db1e42b89f026ba94d8a69d2e1f3ef41f375bfae8aea806f53"), looks := true }, kinds := [], alts := [], laidByText := true, laidKinds := [.data, .data, .data, .data, .sentinel, .sentinel, .data, .data, .data, .data, .data, .data, .pinned], laidTests := true, laidLooks := .later }
def RuleParsesUptoCardSaid : Prop := Claim7.holds Tryz.pinned (.plain (OpenSpec.upto ruleParsesSpec)) ruleParsesUptoCard

/-- THE SECOND FORM's CARD OF 'kauditlaw13.RuleTexts'. -/
def ruleTextsUptoCard : Claim7 := { stood := { row := ruleTextsUptoRow, standIns := [], harness := (true, "45600094d082f2db1e42b89f026ba94d8a69d2e1f3ef41f375bfae8aea806f53"), looks := true }, kinds := [], alts := [], laidByText := true, laidKinds := [.data, .data, .data, .data, .sentinel, .sentinel, .data, .data, .data, .data, .data, .data, .pinned], laidTests := true, laidLooks := .later }
def RuleTextsUptoCardSaid : Prop := Claim7.holds Tryz.pinned (.plain (OpenSpec.upto ruleTextsSpec)) ruleTextsUptoCard

/-- THE SECOND FORM's CARD OF 'kauditlaw13.RuleDiffer'. -/
def ruleDifferUptoCard : Claim7 := { stood := { row := ruleDifferUptoRow, standIns := [], harness := (true, "45600094d082f2db1e42b89f026ba94d8a69d2e1f3ef41f375bfae8aea806f53"), looks := true }, kinds := [], alts := [], laidByText := true, laidKinds := [.data, .data, .data, .data, .sentinel, .sentinel, .data, .data, .data, .data, .data, .data, .pinned], laidTests := true, laidLooks := .later }
def RuleDifferUptoCardSaid : Prop := Claim7.holds Tryz.pinned (.plain (OpenSpec.upto ruleDifferSpec)) ruleDifferUptoCard

/-- THE SECOND FORM's CARD OF 'kauditlaw13.RuleBack'. -/
def ruleBackUptoCard : Claim7 := { stood := { row := ruleBackUptoRow, standIns := [], harness := (true, "45600094d082f2db1e42b89f026ba94d8a69d2e1f3ef41f375bfae8aea806f53"), looks := true }, kinds := [], alts := [], laidByText := true, laidKinds := [.data, .data, .data, .data, .sentinel, .sentinel, .data, .data, .data, .data, .data, .data, .pinned], laidTests := true, laidLooks := .later }
def RuleBackUptoCardSaid : Prop := Claim7.holds Tryz.pinned (.plain (OpenSpec.upto ruleBackSpec)) ruleBackUptoCard

/-- THE SECOND FORM's CARD OF 'kauditlaw13.RuleEquals'. -/
def ruleEqualsUptoCard : Claim7 := { stood := { row := ruleEqualsUptoRow, standIns := [], harness := (true, "45600094d082f2db1e42b89f026ba94d8a69d2e1f3ef41f375bfae8aea806f53"), looks := true }, kinds := [], alts := [], laidByText := true, laidKinds := [.data, .data, .data, .data, .sentinel, .sentinel, .data, .data, .data, .data, .data, .data, .pinned], laidTests := true, laidLooks := .later }
def RuleEqualsUptoCardSaid : Prop := Claim7.holds Tryz.pinned (.plain (OpenSpec.upto ruleEqualsSpec)) ruleEqualsUptoCard
end Rows
end Go.Proofs.YtbbihfafkpniiaaGreatDoor
