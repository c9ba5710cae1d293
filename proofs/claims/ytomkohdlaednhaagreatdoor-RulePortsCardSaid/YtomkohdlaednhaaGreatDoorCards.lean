/-
  DERIVED. GIVEN WITH THE SEED: THE CARDS: each row of YtomkohdlaednhaaGreatDoorRows.lean that lists a variable, with what it lists TIED to the program's text (the seventh form; the later family's looks); each row that meets fmt, with fmt's text TOLD by the authors' own Lean function (tested against real Go, not proved from fmt's source: count such statements apart). THE CARD IS WHAT COUNTS. Prove the row's statement (the work); the ties are given (YtomkohdlaednhaaGreatDoorTie.lean); close each card by the builder's one call (the guide's Derived/Test/ToyasCard.lean, 'card_holds'). Laid BY PROGRAM, IN A SANDBOX (cutbox-door.mjs). By AI agents, Wed Nov 11 2026. No macro, syntax, notation, axiom, sorry.
-/
import Derived.Test.YtomkohdlaednhaaGreatDoorRows
import GoSem.ClaimSeven
namespace Go.Proofs.YtomkohdlaednhaaGreatDoor
namespace Rows

/-- THE TIED CARD OF 'castellanlaw14.RuleParses'. -/
def ruleParsesCard : Claim7 := { stood := { row := ruleParsesRow, standIns := [], harness := (true, "79af6f1e164173cb2a953ab6cec48b2ef0d1341972634072803138e389dabda6"), looks := true }, kinds := [], alts := [], laidByText := true, laidKinds := [.data, .data, .data, .data, .sentinel, .sentinel, .pinned], laidTests := true, laidLooks := .later }
def RuleParsesCardSaid : Prop := Claim7.holds Tryz.pinned (.plain (OpenSpec.ofChange ruleParsesSpec)) ruleParsesCard

/-- THE TIED CARD OF 'castellanlaw14.RuleBack'. -/
def ruleBackCard : Claim7 := { stood := { row := ruleBackRow, standIns := [], harness := (true, "79af6f1e164173cb2a953ab6cec48b2ef0d1341972634072803138e389dabda6"), looks := true }, kinds := [], alts := [], laidByText := true, laidKinds := [.data, .data, .data, .data, .sentinel, .sentinel, .pinned], laidTests := true, laidLooks := .later }
def RuleBackCardSaid : Prop := Claim7.holds Tryz.pinned (.plain (OpenSpec.ofChange ruleBackSpec)) ruleBackCard

/-- THE TIED CARD OF 'castellanlaw14.RuleSettles'. -/
def ruleSettlesCard : Claim7 := { stood := { row := ruleSettlesRow, standIns := [], harness := (true, "79af6f1e164173cb2a953ab6cec48b2ef0d1341972634072803138e389dabda6"), looks := true }, kinds := [], alts := [], laidByText := true, laidKinds := [.data, .data, .data, .data, .sentinel, .sentinel, .pinned], laidTests := true, laidLooks := .later }
def RuleSettlesCardSaid : Prop := Claim7.holds Tryz.pinned (.plain (OpenSpec.ofChange ruleSettlesSpec)) ruleSettlesCard

/-- THE TIED CARD OF 'castellanlaw14.RuleFlags'. -/
def ruleFlagsCard : Claim7 := { stood := { row := ruleFlagsRow, standIns := [], harness := (true, "79af6f1e164173cb2a953ab6cec48b2ef0d1341972634072803138e389dabda6"), looks := true }, kinds := [], alts := [], laidByText := true, laidKinds := [.data, .data, .data, .data, .sentinel, .sentinel, .pinned], laidTests := true, laidLooks := .later }
def RuleFlagsCardSaid : Prop := Claim7.holds Tryz.pinned (.plain (OpenSpec.ofChange ruleFlagsSpec)) ruleFlagsCard

/-- THE TIED CARD OF 'castellanlaw14.RulePorts'. -/
def rulePortsCard : Claim7 := { stood := { row := rulePortsRow, standIns := [], harness := (true, "79af6f1e164173cb2a953ab6cec48b2ef0d1341972634072803138e389dabda6"), looks := true }, kinds := [], alts := [], laidByText := true, laidKinds := [.data, .data, .data, .data, .sentinel, .sentinel, .pinned], laidTests := true, laidLooks := .later }
def RulePortsCardSaid : Prop := Claim7.holds Tryz.pinned (.plain (OpenSpec.ofChange rulePortsSpec)) rulePortsCard

/-- THE TIED CARD OF 'castellanlaw14.RulePrints'. -/
def rulePrintsCard : Claim7 := { stood := { row := rulePrintsRow, standIns := [], harness := (true, "79af6f1e164173cb2a953ab6cec48b2ef0d1341972634072803138e389dabda6"), looks := true }, kinds := [], alts := [], laidByText := true, laidKinds := [.data, .data, .data, .data, .sentinel, .sentinel, .pinned], laidTests := true, laidLooks := .later }
def RulePrintsCardSaid : Prop := Claim7.holds Tryz.pinned (.plain (OpenSpec.ofChange rulePrintsSpec)) rulePrintsCard

/-- THE TIED CARD OF 'castellanlaw20.ConfParses'. -/
def confParsesCard : Claim7 := { stood := { row := confParsesRow, standIns := [], harness := (true, "79af6f1e164173cb2a953ab6cec48b2ef0d1341972634072803138e389dabda6"), looks := true }, kinds := [], alts := [], laidByText := true, laidKinds := [.data, .data, .data, .data, .sentinel, .sentinel, .pinned], laidTests := true, laidLooks := .later }
def ConfParsesCardSaid : Prop := Claim7.holds Tryz.pinned (.plain (OpenSpec.ofChange confParsesSpec)) confParsesCard

/-- THE TIED CARD OF 'castellanlaw20.ConfBack'. -/
def confBackCard : Claim7 := { stood := { row := confBackRow, standIns := [], harness := (true, "79af6f1e164173cb2a953ab6cec48b2ef0d1341972634072803138e389dabda6"), looks := true }, kinds := [], alts := [], laidByText := true, laidKinds := [.data, .data, .data, .data, .sentinel, .sentinel, .pinned], laidTests := true, laidLooks := .later }
def ConfBackCardSaid : Prop := Claim7.holds Tryz.pinned (.plain (OpenSpec.ofChange confBackSpec)) confBackCard

/-- THE SECOND FORM's CARD OF 'castellanlaw14.RuleParses'. -/
def ruleParsesUptoCard : Claim7 := { stood := { row := ruleParsesUptoRow, standIns := [], harness := (true, "79af6f1e164173cb2a953ab6cec48b2ef0d1341972634072803138e389dabda6"), looks := true }, kinds := [], alts := [], laidByText := true, laidKinds := [.data, .data, .data, .data, .sentinel, .sentinel, .pinned], laidTests := true, laidLooks := .later }
def RuleParsesUptoCardSaid : Prop := Claim7.holds Tryz.pinned (.plain (OpenSpec.upto ruleParsesSpec)) ruleParsesUptoCard

/-- THE SECOND FORM's CARD OF 'castellanlaw14.RuleBack'. -/
def ruleBackUptoCard : Claim7 := { stood := { row := ruleBackUptoRow, standIns := [], harness := (true, "79af6f1e164173cb2a953ab6cec48b2ef0d1341972634072803138e389dabda6"), looks := true }, kinds := [], alts := [], laidByText := true, laidKinds := [.data, .data, .data, .data, .sentinel, .sentinel, .pinned], laidTests := true, laidLooks := .later }
def RuleBackUptoCardSaid : Prop := Claim7.holds Tryz.pinned (.plain (OpenSpec.upto ruleBackSpec)) ruleBackUptoCard

/-- THE SECOND FORM's CARD OF 'castellanlaw14.RuleSettles'. -/
def ruleSettlesUptoCard : Claim7 := { stood := { row := ruleSettlesUptoRow, standIns := [], harness := (true, "79af6f1e164173cb2a953ab6cec48b2ef0d1341972634072803138e389dabda6"), looks := true }, kinds := [], alts := [], laidByText := true, laidKinds := [.data, .data, .data, .data, .sentinel, .sentinel, .pinned], laidTests := true, laidLooks := .later }
def RuleSettlesUptoCardSaid : Prop := Claim7.holds Tryz.pinned (.plain (OpenSpec.upto ruleSettlesSpec)) ruleSettlesUptoCard

/-- THE SECOND FORM's CARD OF 'castellanlaw14.RuleFlags'. -/
def ruleFlagsUptoCard : Claim7 := { stood := { row := ruleFlagsUptoRow, standIns := [], harness := (true, "79af6f1e164173cb2a953ab6cec48b2ef0d1341972634072803138e389dabda6"), looks := true }, kinds := [], alts := [], laidByText := true, laidKinds := [.data, .data, .data, .data, .sentinel, .sentinel, .pinned], laidTests := true, laidLooks := .later }
def RuleFlagsUptoCardSaid : Prop := Claim7.holds Tryz.pinned (.plain (OpenSpec.upto ruleFlagsSpec)) ruleFlagsUptoCard

/-- THE SECOND FORM's CARD OF 'castellanlaw14.RulePorts'. -/
def rulePortsUptoCard : Claim7 := { stood := { row := rulePortsUptoRow, standIns := [], harness := (true, "79af6f1e164173cb2a953ab6cec48b2ef0d1341972634072803138e389dabda6"), looks := true }, kinds := [], alts := [], laidByText := true, laidKinds := [.data, .data, .data, .data, .sentinel, .sentinel, .pinned], laidTests := true, laidLooks := .later }
def RulePortsUptoCardSaid : Prop := Claim7.holds Tryz.pinned (.plain (OpenSpec.upto rulePortsSpec)) rulePortsUptoCard

/-- THE SECOND FORM's CARD OF 'castellanlaw14.RulePrints'. -/
def rulePrintsUptoCard : Claim7 := { stood := { row := rulePrintsUptoRow, standIns := [], harness := (true, "79af6f1e164173cb2a953ab6cec48b2ef0d1341972634072803138e389dabda6"), looks := true }, kinds := [], alts := [], laidByText := true, laidKinds := [.data, .data, .data, .data, .sentinel, .sentinel, .pinned], laidTests := true, laidLooks := .later }
def RulePrintsUptoCardSaid : Prop := Claim7.holds Tryz.pinned (.plain (OpenSpec.upto rulePrintsSpec)) rulePrintsUptoCard

/-- THE SECOND FORM's CARD OF 'castellanlaw20.ConfParses'. -/
def confParsesUptoCard : Claim7 := { stood := { row := confParsesUptoRow, standIns := [], harness := (true, "79af6f1e164173cb2a953ab6cec48b2ef0d1341972634072803138e389dabda6"), looks := true }, kinds := [], alts := [], laidByText := true, laidKinds := [.data, .data, .data, .data, .sentinel, .sentinel, .pinned], laidTests := true, laidLooks := .later }
def ConfParsesUptoCardSaid : Prop := Claim7.holds Tryz.pinned (.plain (OpenSpec.upto confParsesSpec)) confParsesUptoCard

/-- THE SECOND FORM's CARD OF 'castellanlaw20.ConfBack'. -/
def confBackUptoCard : Claim7 := { stood := { row := confBackUptoRow, standIns := [], harness := (true, "79af6f1e164173cb2a953ab6cec48b2ef0d1341972634072803138e389dabda6"), looks := true }, kinds := [], alts := [], laidByText := true, laidKinds := [.data, .data, .data, .data, .sentinel, .sentinel, .pinned], laidTests := true, laidLooks := .later }
def ConfBackUptoCardSaid : Prop := Claim7.holds Tryz.pinned (.plain (OpenSpec.upto confBackSpec)) confBackUptoCard
end Rows
end Go.Proofs.YtomkohdlaednhaaGreatDoor
