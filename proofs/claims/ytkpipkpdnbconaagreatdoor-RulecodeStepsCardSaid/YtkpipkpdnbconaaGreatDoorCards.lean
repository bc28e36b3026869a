/-
  DERIVED. GIVEN WITH THE SEED: THE CARDS: each row of YtkpipkpdnbconaaGreatDoorRows.lean that lists a variable, with what it lists TIED to the program's text (the seventh form; the later family's looks); each row that meets fmt, with fmt's text TOLD by the authors' own Lean function (tested against real Go, not proved from fmt's source: count such statements apart). THE CARD IS WHAT COUNTS. Prove the row's statement (the work); the ties are given (YtkpipkpdnbconaaGreatDoorTie.lean); close each card by the builder's one call (the guide's Derived/Test/ToyasCard.lean, 'card_holds'). Laid BY PROGRAM, IN A SANDBOX (cutbox-door.mjs). By AI agents, Wed Nov 11 2026. No macro, syntax, notation, axiom, sorry.
-/
import Derived.Test.YtkpipkpdnbconaaGreatDoorRows
import GoSem.ClaimSeven
namespace Go.Proofs.YtkpipkpdnbconaaGreatDoor
namespace Rows

/-- THE TIED CARD OF 'quaysidelaw45.RulecodeCompiles'. -/
def rulecodeCompilesCard : Claim7 := { stood := { row := rulecodeCompilesRow, standIns := [], harness := (true, "bfe4a20576cc8242e17b6e266cb2c57ec4ec7745616784b8a1fd6542a2cdfca3"), looks := true }, kinds := [], alts := [], laidByText := true, laidKinds := [.data, .data, .data, .sentinel, .sentinel, .widerDeep, .widerDeep, .widerDeep, .widerDeep], laidTests := true, laidLooks := .later }
def RulecodeCompilesCardSaid : Prop := Claim7.holds Tryz.pinned (.plain (OpenSpec.ofChange rulecodeCompilesSpec)) rulecodeCompilesCard

/-- THE TIED CARD OF 'quaysidelaw45.RulecodeWell'. -/
def rulecodeWellCard : Claim7 := { stood := { row := rulecodeWellRow, standIns := [], harness := (true, "bfe4a20576cc8242e17b6e266cb2c57ec4ec7745616784b8a1fd6542a2cdfca3"), looks := true }, kinds := [], alts := [], laidByText := true, laidKinds := [.data, .data, .data, .sentinel, .sentinel, .widerDeep, .widerDeep, .widerDeep, .widerDeep], laidTests := true, laidLooks := .later }
def RulecodeWellCardSaid : Prop := Claim7.holds Tryz.pinned (.plain (OpenSpec.ofChange rulecodeWellSpec)) rulecodeWellCard

/-- THE TIED CARD OF 'quaysidelaw45.RulecodeChecks'. -/
def rulecodeChecksCard : Claim7 := { stood := { row := rulecodeChecksRow, standIns := [], harness := (true, "bfe4a20576cc8242e17b6e266cb2c57ec4ec7745616784b8a1fd6542a2cdfca3"), looks := true }, kinds := [], alts := [], laidByText := true, laidKinds := [.data, .data, .data, .sentinel, .sentinel, .widerDeep, .widerDeep, .widerDeep, .widerDeep], laidTests := true, laidLooks := .later }
def RulecodeChecksCardSaid : Prop := Claim7.holds Tryz.pinned (.plain (OpenSpec.ofChange rulecodeChecksSpec)) rulecodeChecksCard

/-- THE TIED CARD OF 'quaysidelaw45.RulecodeFormats'. -/
def rulecodeFormatsCard : Claim7 := { stood := { row := rulecodeFormatsRow, standIns := [], harness := (true, "bfe4a20576cc8242e17b6e266cb2c57ec4ec7745616784b8a1fd6542a2cdfca3"), looks := true }, kinds := [], alts := [], laidByText := true, laidKinds := [.data, .data, .data, .sentinel, .sentinel, .widerDeep, .widerDeep, .widerDeep, .widerDeep, .data], laidTests := true, laidLooks := .later }
def RulecodeFormatsCardSaid : Prop := Claim7.holds Tryz.pinned (.plain (OpenSpec.ofChange rulecodeFormatsSpec)) rulecodeFormatsCard

/-- THE TIED CARD OF 'quaysidelaw45.RulecodeSteps'. -/
def rulecodeStepsCard : Claim7 := { stood := { row := rulecodeStepsRow, standIns := [], harness := (true, "bfe4a20576cc8242e17b6e266cb2c57ec4ec7745616784b8a1fd6542a2cdfca3"), looks := true }, kinds := [], alts := [], laidByText := true, laidKinds := [.data, .data, .data, .sentinel, .sentinel, .widerDeep, .widerDeep, .widerDeep, .widerDeep], laidTests := true, laidLooks := .later }
def RulecodeStepsCardSaid : Prop := Claim7.holds Tryz.pinned (.plain (OpenSpec.ofChange rulecodeStepsSpec)) rulecodeStepsCard

/-- THE SECOND FORM's CARD OF 'quaysidelaw45.RulecodeCompiles'. -/
def rulecodeCompilesUptoCard : Claim7 := { stood := { row := rulecodeCompilesUptoRow, standIns := [], harness := (true, "bfe4a20576cc8242e17b6e266cb2c57ec4ec7745616784b8a1fd6542a2cdfca3"), looks := true }, kinds := [], alts := [], laidByText := true, laidKinds := [.data, .data, .data, .sentinel, .sentinel, .widerDeep, .widerDeep, .widerDeep, .widerDeep], laidTests := true, laidLooks := .later }
def RulecodeCompilesUptoCardSaid : Prop := Claim7.holds Tryz.pinned (.plain (OpenSpec.upto rulecodeCompilesSpec)) rulecodeCompilesUptoCard

/-- THE SECOND FORM's CARD OF 'quaysidelaw45.RulecodeWell'. -/
def rulecodeWellUptoCard : Claim7 := { stood := { row := rulecodeWellUptoRow, standIns := [], harness := (true, "bfe4a20576cc8242e17b6e266cb2c57ec4ec7745616784b8a1fd6542a2cdfca3"), looks := true }, kinds := [], alts := [], laidByText := true, laidKinds := [.data, .data, .data, .sentinel, .sentinel, .widerDeep, .widerDeep, .widerDeep, .widerDeep], laidTests := true, laidLooks := .later }
def RulecodeWellUptoCardSaid : Prop := Claim7.holds Tryz.pinned (.plain (OpenSpec.upto rulecodeWellSpec)) rulecodeWellUptoCard

/-- THE SECOND FORM's CARD OF 'quaysidelaw45.RulecodeChecks'. -/
def rulecodeChecksUptoCard : Claim7 := { stood := { row := rulecodeChecksUptoRow, standIns := [], harness := (true, "bfe4a20576cc8242e17b6e266cb2c57ec4ec7745616784b8a1fd6542a2cdfca3"), looks := true }, kinds := [], alts := [], laidByText := true, laidKinds := [.data, .data, .data, .sentinel, .sentinel, .widerDeep, .widerDeep, .widerDeep, .widerDeep], laidTests := true, laidLooks := .later }
def RulecodeChecksUptoCardSaid : Prop := Claim7.holds Tryz.pinned (.plain (OpenSpec.upto rulecodeChecksSpec)) rulecodeChecksUptoCard

/-- THE SECOND FORM's CARD OF 'quaysidelaw45.RulecodeFormats'. -/
def rulecodeFormatsUptoCard : Claim7 := { stood := { row := rulecodeFormatsUptoRow, standIns := [], harness := (true, "bfe4a20576cc8242e17b6e266cb2c57ec4ec7745616784b8a1fd6542a2cdfca3"), looks := true }, kinds := [], alts := [], laidByText := true, laidKinds := [.data, .data, .data, .sentinel, .sentinel, .widerDeep, .widerDeep, .widerDeep, .widerDeep, .data], laidTests := true, laidLooks := .later }
def RulecodeFormatsUptoCardSaid : Prop := Claim7.holds Tryz.pinned (.plain (OpenSpec.upto rulecodeFormatsSpec)) rulecodeFormatsUptoCard

/-- THE SECOND FORM's CARD OF 'quaysidelaw45.RulecodeSteps'. -/
def rulecodeStepsUptoCard : Claim7 := { stood := { row := rulecodeStepsUptoRow, standIns := [], harness := (true, "bfe4a20576cc8242e17b6e266cb2c57ec4ec7745616784b8a1fd6542a2cdfca3"), looks := true }, kinds := [], alts := [], laidByText := true, laidKinds := [.data, .data, .data, .sentinel, .sentinel, .widerDeep, .widerDeep, .widerDeep, .widerDeep], laidTests := true, laidLooks := .later }
def RulecodeStepsUptoCardSaid : Prop := Claim7.holds Tryz.pinned (.plain (OpenSpec.upto rulecodeStepsSpec)) rulecodeStepsUptoCard
end Rows
end Go.Proofs.YtkpipkpdnbconaaGreatDoor
