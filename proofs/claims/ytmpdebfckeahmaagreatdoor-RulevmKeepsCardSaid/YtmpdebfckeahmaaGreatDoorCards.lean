/-
  DERIVED. GIVEN WITH THE SEED: THE CARDS: each row of YtmpdebfckeahmaaGreatDoorRows.lean that lists a variable, with what it lists TIED to the program's text (the seventh form; the later family's looks); each row that meets fmt, with fmt's text TOLD by the authors' own Lean function (tested against real Go, not proved from fmt's source: count such statements apart). THE CARD IS WHAT COUNTS. Prove the row's statement (the work); the ties are given (YtmpdebfckeahmaaGreatDoorTie.lean); close each card by the builder's one call (the guide's Derived/Test/ToyasCard.lean, 'card_holds'). Laid BY PROGRAM, IN A SANDBOX (cutbox-door.mjs). By AI agents, Wed Nov 11 2026. No macro, syntax, notation, axiom, sorry.
-/
import Derived.Test.YtmpdebfckeahmaaGreatDoorRows
import GoSem.ClaimSeven
namespace Go.Proofs.YtmpdebfckeahmaaGreatDoor
namespace Rows

/-- THE TIED CARD OF 'quaysidelaw46.RulevmRuns'. -/
def rulevmRunsCard : Claim7 := { stood := { row := rulevmRunsRow, standIns := [], harness := (true, "ee3de563e703e103e906e5e9a9b241eda50e100b9ed2c5a6e50cd6bd4a86963a"), looks := true }, kinds := [], alts := [], laidByText := true, laidKinds := [.data, .data, .data, .data, .widerDeep, .widerDeep, .widerDeep, .pinned], laidTests := true, laidLooks := .later }
def RulevmRunsCardSaid : Prop := Claim7.holds Tryz.pinned (.plain (OpenSpec.ofChange rulevmRunsSpec)) rulevmRunsCard

/-- THE TIED CARD OF 'quaysidelaw46.RulevmNums'. -/
def rulevmNumsCard : Claim7 := { stood := { row := rulevmNumsRow, standIns := [], harness := (true, "ee3de563e703e103e906e5e9a9b241eda50e100b9ed2c5a6e50cd6bd4a86963a"), looks := true }, kinds := [], alts := [], laidByText := true, laidKinds := [.data, .data, .data, .data, .widerDeep, .widerDeep, .widerDeep, .pinned], laidTests := true, laidLooks := .later }
def RulevmNumsCardSaid : Prop := Claim7.holds Tryz.pinned (.plain (OpenSpec.ofChange rulevmNumsSpec)) rulevmNumsCard

/-- THE TIED CARD OF 'quaysidelaw46.RulevmEvals'. -/
def rulevmEvalsCard : Claim7 := { stood := { row := rulevmEvalsRow, standIns := [], harness := (true, "ee3de563e703e103e906e5e9a9b241eda50e100b9ed2c5a6e50cd6bd4a86963a"), looks := true }, kinds := [], alts := [], laidByText := true, laidKinds := [.data, .data, .data, .data, .widerDeep, .widerDeep, .widerDeep, .widerDeep, .pinned], laidTests := true, laidLooks := .later }
def RulevmEvalsCardSaid : Prop := Claim7.holds Tryz.pinned (.plain (OpenSpec.ofChange rulevmEvalsSpec)) rulevmEvalsCard

/-- THE TIED CARD OF 'quaysidelaw46.RulevmKeeps'. -/
def rulevmKeepsCard : Claim7 := { stood := { row := rulevmKeepsRow, standIns := [], harness := (true, "ee3de563e703e103e906e5e9a9b241eda50e100b9ed2c5a6e50cd6bd4a86963a"), looks := true }, kinds := [], alts := [], laidByText := true, laidKinds := [.data, .data, .data, .data, .widerDeep, .widerDeep, .widerDeep, .widerDeep, .pinned], laidTests := true, laidLooks := .later }
def RulevmKeepsCardSaid : Prop := Claim7.holds Tryz.pinned (.plain (OpenSpec.ofChange rulevmKeepsSpec)) rulevmKeepsCard

/-- THE TIED CARD OF 'quaysidelaw46.RulevmDenies'. -/
def rulevmDeniesCard : Claim7 := { stood := { row := rulevmDeniesRow, standIns := [], harness := (true, "ee3de563e703e103e906e5e9a9b241eda50e100b9ed2c5a6e50cd6bd4a86963a"), looks := true }, kinds := [], alts := [], laidByText := true, laidKinds := [.data, .data, .data, .data, .widerDeep, .widerDeep, .widerDeep, .widerDeep, .pinned], laidTests := true, laidLooks := .later }
def RulevmDeniesCardSaid : Prop := Claim7.holds Tryz.pinned (.plain (OpenSpec.ofChange rulevmDeniesSpec)) rulevmDeniesCard

/-- THE TIED CARD OF 'quaysidelaw46.RulevmBounds'. -/
def rulevmBoundsCard : Claim7 := { stood := { row := rulevmBoundsRow, standIns := [], harness := (true, "ee3de563e703e103e906e5e9a9b241eda50e100b9ed2c5a6e50cd6bd4a86963a"), looks := true }, kinds := [], alts := [], laidByText := true, laidKinds := [.data, .data, .data, .data, .sentinel, .sentinel, .widerDeep, .widerDeep, .widerDeep, .widerDeep, .pinned], laidTests := true, laidLooks := .later }
def RulevmBoundsCardSaid : Prop := Claim7.holds Tryz.pinned (.plain (OpenSpec.ofChange rulevmBoundsSpec)) rulevmBoundsCard

/-- THE TIED CARD OF 'quaysidelaw46.RulevmAgrees'. -/
def rulevmAgreesCard : Claim7 := { stood := { row := rulevmAgreesRow, standIns := [], harness := (true, "ee3de563e703e103e906e5e9a9b241eda50e100b9ed2c5a6e50cd6bd4a86963a"), looks := true }, kinds := [], alts := [], laidByText := true, laidKinds := [.data, .data, .data, .data, .sentinel, .sentinel, .widerDeep, .widerDeep, .widerDeep, .widerDeep, .pinned], laidTests := true, laidLooks := .later }
def RulevmAgreesCardSaid : Prop := Claim7.holds Tryz.pinned (.plain (OpenSpec.ofChange rulevmAgreesSpec)) rulevmAgreesCard

/-- THE SECOND FORM's CARD OF 'quaysidelaw46.RulevmRuns'. -/
def rulevmRunsUptoCard : Claim7 := { stood := { row := rulevmRunsUptoRow, standIns := [], harness := (true, "ee3de563e703e103e906e5e9a9b241eda50e100b9ed2c5a6e50cd6bd4a86963a"), looks := true }, kinds := [], alts := [], laidByText := true, laidKinds := [.data, .data, .data, .data, .widerDeep, .widerDeep, .widerDeep, .pinned], laidTests := true, laidLooks := .later }
def RulevmRunsUptoCardSaid : Prop := Claim7.holds Tryz.pinned (.plain (OpenSpec.upto rulevmRunsSpec)) rulevmRunsUptoCard

/-- THE SECOND FORM's CARD OF 'quaysidelaw46.RulevmNums'. -/
def rulevmNumsUptoCard : Claim7 := { stood := { row := rulevmNumsUptoRow, standIns := [], harness := (true, "ee3de563e703e103e906e5e9a9b241eda50e100b9ed2c5a6e50cd6bd4a86963a"), looks := true }, kinds := [], alts := [], laidByText := true, laidKinds := [.data, .data, .data, .data, .widerDeep, .widerDeep, .widerDeep, .pinned], laidTests := true, laidLooks := .later }
def RulevmNumsUptoCardSaid : Prop := Claim7.holds Tryz.pinned (.plain (OpenSpec.upto rulevmNumsSpec)) rulevmNumsUptoCard

/-- THE SECOND FORM's CARD OF 'quaysidelaw46.RulevmEvals'. -/
def rulevmEvalsUptoCard : Claim7 := { stood := { row := rulevmEvalsUptoRow, standIns := [], harness := (true, "ee3de563e703e103e906e5e9a9b241eda50e100b9ed2c5a6e50cd6bd4a86963a"), looks := true }, kinds := [], alts := [], laidByText := true, laidKinds := [.data, .data, .data, .data, .widerDeep, .widerDeep, .widerDeep, .widerDeep, .pinned], laidTests := true, laidLooks := .later }
def RulevmEvalsUptoCardSaid : Prop := Claim7.holds Tryz.pinned (.plain (OpenSpec.upto rulevmEvalsSpec)) rulevmEvalsUptoCard

/-- THE SECOND FORM's CARD OF 'quaysidelaw46.RulevmKeeps'. -/
def rulevmKeepsUptoCard : Claim7 := { stood := { row := rulevmKeepsUptoRow, standIns := [], harness := (true, "ee3de563e703e103e906e5e9a9b241eda50e100b9ed2c5a6e50cd6bd4a86963a"), looks := true }, kinds := [], alts := [], laidByText := true, laidKinds := [.data, .data, .data, .data, .widerDeep, .widerDeep, .widerDeep, .widerDeep, .pinned], laidTests := true, laidLooks := .later }
def RulevmKeepsUptoCardSaid : Prop := Claim7.holds Tryz.pinned (.plain (OpenSpec.upto rulevmKeepsSpec)) rulevmKeepsUptoCard

/-- THE SECOND FORM's CARD OF 'quaysidelaw46.RulevmDenies'. -/
def rulevmDeniesUptoCard : Claim7 := { stood := { row := rulevmDeniesUptoRow, standIns := [], harness := (true, "ee3de563e703e103e906e5e9a9b241eda50e100b9ed2c5a6e50cd6bd4a86963a"), looks := true }, kinds := [], alts := [], laidByText := true, laidKinds := [.data, .data, .data, .data, .widerDeep, .widerDeep, .widerDeep, .widerDeep, .pinned], laidTests := true, laidLooks := .later }
def RulevmDeniesUptoCardSaid : Prop := Claim7.holds Tryz.pinned (.plain (OpenSpec.upto rulevmDeniesSpec)) rulevmDeniesUptoCard

/-- THE SECOND FORM's CARD OF 'quaysidelaw46.RulevmBounds'. -/
def rulevmBoundsUptoCard : Claim7 := { stood := { row := rulevmBoundsUptoRow, standIns := [], harness := (true, "ee3de563e703e103e906e5e9a9b241eda50e100b9ed2c5a6e50cd6bd4a86963a"), looks := true }, kinds := [], alts := [], laidByText := true, laidKinds := [.data, .data, .data, .data, .sentinel, .sentinel, .widerDeep, .widerDeep, .widerDeep, .widerDeep, .pinned], laidTests := true, laidLooks := .later }
def RulevmBoundsUptoCardSaid : Prop := Claim7.holds Tryz.pinned (.plain (OpenSpec.upto rulevmBoundsSpec)) rulevmBoundsUptoCard

/-- THE SECOND FORM's CARD OF 'quaysidelaw46.RulevmAgrees'. -/
def rulevmAgreesUptoCard : Claim7 := { stood := { row := rulevmAgreesUptoRow, standIns := [], harness := (true, "ee3de563e703e103e906e5e9a9b241eda50e100b9ed2c5a6e50cd6bd4a86963a"), looks := true }, kinds := [], alts := [], laidByText := true, laidKinds := [.data, .data, .data, .data, .sentinel, .sentinel, .widerDeep, .widerDeep, .widerDeep, .widerDeep, .pinned], laidTests := true, laidLooks := .later }
def RulevmAgreesUptoCardSaid : Prop := Claim7.holds Tryz.pinned (.plain (OpenSpec.upto rulevmAgreesSpec)) rulevmAgreesUptoCard
end Rows
end Go.Proofs.YtmpdebfckeahmaaGreatDoor
