/-
  DERIVED. GIVEN WITH THE SEED: THE CARDS: each row of YtiaaooopklhobaaGreatDoorRows.lean that lists a variable, with what it lists TIED to the program's text (the seventh form; the later family's looks); each row that meets fmt, with fmt's text TOLD by the authors' own Lean function (tested against real Go, not proved from fmt's source: count such statements apart). THE CARD IS WHAT COUNTS. Prove the row's statement (the work); the ties are given (YtiaaooopklhobaaGreatDoorTie.lean); close each card by the builder's one call (the guide's Derived/Test/ToyasCard.lean, 'card_holds'). Laid BY PROGRAM, IN A SANDBOX (cutbox-door.mjs). By AI agents, Wed Nov 11 2026. No macro, syntax, notation, axiom, sorry.
-/
import Derived.Test.YtiaaooopklhobaaGreatDoorRows
import GoSem.ClaimSeven
namespace Go.Proofs.YtiaaooopklhobaaGreatDoor
namespace Rows

/-- THE TIED CARD OF 'quaysidelaw47.TenantPlain'. -/
def tenantPlainCard : Claim7 := { stood := { row := tenantPlainRow, standIns := [], harness := (true, "5df1a881ba2f11d5de72029e92f032c50f3b3fea85d3d42adf708cb68113336d"), looks := true }, kinds := [], alts := [], laidByText := true, laidKinds := [.data, .data, .data, .data, .sentinel, .sentinel, .widerDeep, .widerDeep, .widerDeep, .widerDeep, .pinned], laidTests := true, laidLooks := .later }
def TenantPlainCardSaid : Prop := Claim7.holds Tryz.pinned (.plain (OpenSpec.ofChange tenantPlainSpec)) tenantPlainCard

/-- THE TIED CARD OF 'quaysidelaw47.TenantRules'. -/
def tenantRulesCard : Claim7 := { stood := { row := tenantRulesRow, standIns := [], harness := (true, "5df1a881ba2f11d5de72029e92f032c50f3b3fea85d3d42adf708cb68113336d"), looks := true }, kinds := [], alts := [], laidByText := true, laidKinds := [.data, .data, .data, .data, .sentinel, .sentinel, .widerDeep, .widerDeep, .widerDeep, .widerDeep, .pinned], laidTests := true, laidLooks := .later }
def TenantRulesCardSaid : Prop := Claim7.holds Tryz.pinned (.plain (OpenSpec.ofChange tenantRulesSpec)) tenantRulesCard

/-- THE TIED CARD OF 'quaysidelaw47.TenantAlone'. -/
def tenantAloneCard : Claim7 := { stood := { row := tenantAloneRow, standIns := [], harness := (true, "5df1a881ba2f11d5de72029e92f032c50f3b3fea85d3d42adf708cb68113336d"), looks := true }, kinds := [], alts := [], laidByText := true, laidKinds := [.data, .data, .data, .data, .sentinel, .sentinel, .widerDeep, .widerDeep, .widerDeep, .widerDeep, .pinned], laidTests := true, laidLooks := .later }
def TenantAloneCardSaid : Prop := Claim7.holds Tryz.pinned (.plain (OpenSpec.ofChange tenantAloneSpec)) tenantAloneCard

/-- THE TIED CARD OF 'quaysidelaw47.TenantFields'. -/
def tenantFieldsCard : Claim7 := { stood := { row := tenantFieldsRow, standIns := [], harness := (true, "5df1a881ba2f11d5de72029e92f032c50f3b3fea85d3d42adf708cb68113336d"), looks := true }, kinds := [], alts := [], laidByText := true, laidKinds := [.data, .data, .data, .data, .sentinel, .sentinel, .widerDeep, .widerDeep, .widerDeep, .widerDeep, .pinned], laidTests := true, laidLooks := .later }
def TenantFieldsCardSaid : Prop := Claim7.holds Tryz.pinned (.plain (OpenSpec.ofChange tenantFieldsSpec)) tenantFieldsCard

/-- THE TIED CARD OF 'quaysidelaw47.TenantMakes'. -/
def tenantMakesCard : Claim7 := { stood := { row := tenantMakesRow, standIns := [], harness := (true, "5df1a881ba2f11d5de72029e92f032c50f3b3fea85d3d42adf708cb68113336d"), looks := true }, kinds := [], alts := [], laidByText := true, laidKinds := [.data, .data, .data, .data, .sentinel, .sentinel, .widerDeep, .widerDeep, .widerDeep, .widerDeep, .pinned], laidTests := true, laidLooks := .later }
def TenantMakesCardSaid : Prop := Claim7.holds Tryz.pinned (.plain (OpenSpec.ofChange tenantMakesSpec)) tenantMakesCard

/-- THE TIED CARD OF 'quaysidelaw47.TenantHosts'. -/
def tenantHostsCard : Claim7 := { stood := { row := tenantHostsRow, standIns := [], harness := (true, "5df1a881ba2f11d5de72029e92f032c50f3b3fea85d3d42adf708cb68113336d"), looks := true }, kinds := [], alts := [], laidByText := true, laidKinds := [.data, .data, .data, .data, .sentinel, .sentinel, .widerDeep, .widerDeep, .widerDeep, .widerDeep, .pinned], laidTests := true, laidLooks := .later }
def TenantHostsCardSaid : Prop := Claim7.holds Tryz.pinned (.plain (OpenSpec.ofChange tenantHostsSpec)) tenantHostsCard

/-- THE TIED CARD OF 'quaysidelaw47.TenantKeys'. -/
def tenantKeysCard : Claim7 := { stood := { row := tenantKeysRow, standIns := [], harness := (true, "5df1a881ba2f11d5de72029e92f032c50f3b3fea85d3d42adf708cb68113336d"), looks := true }, kinds := [], alts := [], laidByText := true, laidKinds := [.data, .data, .data, .data, .sentinel, .sentinel, .widerDeep, .widerDeep, .widerDeep, .widerDeep, .pinned], laidTests := true, laidLooks := .later }
def TenantKeysCardSaid : Prop := Claim7.holds Tryz.pinned (.plain (OpenSpec.ofChange tenantKeysSpec)) tenantKeysCard

/-- THE TIED CARD OF 'quaysidelaw47.TenantDecides'. -/
def tenantDecidesCard : Claim7 := { stood := { row := tenantDecidesRow, standIns := [], harness := (true, "5df1a881ba2f11d5de72029e92f032c50f3b3fea85d3d42adf708cb68113336d"), looks := true }, kinds := [], alts := [], laidByText := true, laidKinds := [.data, .data, .data, .data, .sentinel, .sentinel, .widerDeep, .widerDeep, .widerDeep, .widerDeep, .pinned], laidTests := true, laidLooks := .later }
def TenantDecidesCardSaid : Prop := Claim7.holds Tryz.pinned (.plain (OpenSpec.ofChange tenantDecidesSpec)) tenantDecidesCard

/-- THE SECOND FORM's CARD OF 'quaysidelaw47.TenantPlain'. -/
def tenantPlainUptoCard : Claim7 := { stood := { row := tenantPlainUptoRow, standIns := [], harness := (true, "5df1a881ba2f11d5de72029e92f032c50f3b3fea85d3d42adf708cb68113336d"), looks := true }, kinds := [], alts := [], laidByText := true, laidKinds := [.data, .data, .data, .data, .sentinel, .sentinel, .widerDeep, .widerDeep, .widerDeep, .widerDeep, .pinned], laidTests := true, laidLooks := .later }
def TenantPlainUptoCardSaid : Prop := Claim7.holds Tryz.pinned (.plain (OpenSpec.upto tenantPlainSpec)) tenantPlainUptoCard

/-- THE SECOND FORM's CARD OF 'quaysidelaw47.TenantRules'. -/
def tenantRulesUptoCard : Claim7 := { stood := { row := tenantRulesUptoRow, standIns := [], harness := (true, "5df1a881ba2f11d5de72029e92f032c50f3b3fea85d3d42adf708cb68113336d"), looks := true }, kinds := [], alts := [], laidByText := true, laidKinds := [.data, .data, .data, .data, .sentinel, .sentinel, .widerDeep, .widerDeep, .widerDeep, .widerDeep, .pinned], laidTests := true, laidLooks := .later }
def TenantRulesUptoCardSaid : Prop := Claim7.holds Tryz.pinned (.plain (OpenSpec.upto tenantRulesSpec)) tenantRulesUptoCard

/-- THE SECOND FORM's CARD OF 'quaysidelaw47.TenantAlone'. -/
def tenantAloneUptoCard : Claim7 := { stood := { row := tenantAloneUptoRow, standIns := [], harness := (true, "5df1a881ba2f11d5de72029e92f032c50f3b3fea85d3d42adf708cb68113336d"), looks := true }, kinds := [], alts := [], laidByText := true, laidKinds := [.data, .data, .data, .data, .sentinel, .sentinel, .widerDeep, .widerDeep, .widerDeep, .widerDeep, .pinned], laidTests := true, laidLooks := .later }
def TenantAloneUptoCardSaid : Prop := Claim7.holds Tryz.pinned (.plain (OpenSpec.upto tenantAloneSpec)) tenantAloneUptoCard

/-- THE SECOND FORM's CARD OF 'quaysidelaw47.TenantFields'. -/
def tenantFieldsUptoCard : Claim7 := { stood := { row := tenantFieldsUptoRow, standIns := [], harness := (true, "5df1a881ba2f11d5de72029e92f032c50f3b3fea85d3d42adf708cb68113336d"), looks := true }, kinds := [], alts := [], laidByText := true, laidKinds := [.data, .data, .data, .data, .sentinel, .sentinel, .widerDeep, .widerDeep, .widerDeep, .widerDeep, .pinned], laidTests := true, laidLooks := .later }
def TenantFieldsUptoCardSaid : Prop := Claim7.holds Tryz.pinned (.plain (OpenSpec.upto tenantFieldsSpec)) tenantFieldsUptoCard

/-- THE SECOND FORM's CARD OF 'quaysidelaw47.TenantMakes'. -/
def tenantMakesUptoCard : Claim7 := { stood := { row := tenantMakesUptoRow, standIns := [], harness := (true, "5df1a881ba2f11d5de72029e92f032c50f3b3fea85d3d42adf708cb68113336d"), looks := true }, kinds := [], alts := [], laidByText := true, laidKinds := [.data, .data, .data, .data, .sentinel, .sentinel, .widerDeep, .widerDeep, .widerDeep, .widerDeep, .pinned], laidTests := true, laidLooks := .later }
def TenantMakesUptoCardSaid : Prop := Claim7.holds Tryz.pinned (.plain (OpenSpec.upto tenantMakesSpec)) tenantMakesUptoCard

/-- THE SECOND FORM's CARD OF 'quaysidelaw47.TenantHosts'. -/
def tenantHostsUptoCard : Claim7 := { stood := { row := tenantHostsUptoRow, standIns := [], harness := (true, "5df1a881ba2f11d5de72029e92f032c50f3b3fea85d3d42adf708cb68113336d"), looks := true }, kinds := [], alts := [], laidByText := true, laidKinds := [.data, .data, .data, .data, .sentinel, .sentinel, .widerDeep, .widerDeep, .widerDeep, .widerDeep, .pinned], laidTests := true, laidLooks := .later }
def TenantHostsUptoCardSaid : Prop := Claim7.holds Tryz.pinned (.plain (OpenSpec.upto tenantHostsSpec)) tenantHostsUptoCard

/-- THE SECOND FORM's CARD OF 'quaysidelaw47.TenantKeys'. -/
def tenantKeysUptoCard : Claim7 := { stood := { row := tenantKeysUptoRow, standIns := [], harness := (true, "5df1a881ba2f11d5de72029e92f032c50f3b3fea85d3d42adf708cb68113336d"), looks := true }, kinds := [], alts := [], laidByText := true, laidKinds := [.data, .data, .data, .data, .sentinel, .sentinel, .widerDeep, .widerDeep, .widerDeep, .widerDeep, .pinned], laidTests := true, laidLooks := .later }
def TenantKeysUptoCardSaid : Prop := Claim7.holds Tryz.pinned (.plain (OpenSpec.upto tenantKeysSpec)) tenantKeysUptoCard

/-- THE SECOND FORM's CARD OF 'quaysidelaw47.TenantDecides'. -/
def tenantDecidesUptoCard : Claim7 := { stood := { row := tenantDecidesUptoRow, standIns := [], harness := (true, "5df1a881ba2f11d5de72029e92f032c50f3b3fea85d3d42adf708cb68113336d"), looks := true }, kinds := [], alts := [], laidByText := true, laidKinds := [.data, .data, .data, .data, .sentinel, .sentinel, .widerDeep, .widerDeep, .widerDeep, .widerDeep, .pinned], laidTests := true, laidLooks := .later }
def TenantDecidesUptoCardSaid : Prop := Claim7.holds Tryz.pinned (.plain (OpenSpec.upto tenantDecidesSpec)) tenantDecidesUptoCard
end Rows
end Go.Proofs.YtiaaooopklhobaaGreatDoor
