/-
  DERIVED. GIVEN WITH THE SEED: THE CARDS: each row of YtkpipkpdnbconaaDoorRows.lean that lists a variable, with what it lists TIED to the program's text (the seventh form; the later family's looks); each row that meets fmt, with fmt's text TOLD by the authors' own Lean function (tested against real Go, not proved from fmt's source: count such statements apart). THE CARD IS WHAT COUNTS. Prove the row's statement (the work); the ties are given (YtkpipkpdnbconaaDoorTie.lean); close each card by the builder's one call (the guide's Derived/Test/ToyasCard.lean, 'card_holds'). Laid BY PROGRAM, IN A SANDBOX (cutbox-door.mjs). By AI agents, Wed Nov 11 2026. No macro, syntax, notation, axiom, sorry.
-/
import Derived.Test.YtkpipkpdnbconaaDoorRows
import GoSem.ClaimSeven
namespace Go.Proofs.YtkpipkpdnbconaaDoor
namespace Rows

/-- THE TIED CARD OF 'quaysidelaw45.RulecodeBreaks'. -/
def rulecodeBreaksCard : Claim7 := { stood := { row := rulecodeBreaksRow, standIns := [], harness := (true, "51fcc8fd36bd9727e8a67e600bc3686b91e2c5db3136b5dc9549afc79f71b995"), looks := true }, kinds := [], alts := [], laidByText := true, laidKinds := [.data, .data, .data, .sentinel, .sentinel, .widerDeep, .widerDeep, .widerDeep, .widerDeep], laidTests := true, laidLooks := .later }
def RulecodeBreaksCardSaid : Prop := Claim7.holds Tryd.pinned (.plain (OpenSpec.ofChange rulecodeBreaksSpec)) rulecodeBreaksCard

/-- THE TIED CARD OF 'quaysidelaw45.RulecodeJoins'. -/
def rulecodeJoinsCard : Claim7 := { stood := { row := rulecodeJoinsRow, standIns := [], harness := (true, "51fcc8fd36bd9727e8a67e600bc3686b91e2c5db3136b5dc9549afc79f71b995"), looks := true }, kinds := [], alts := [], laidByText := true, laidKinds := [.data, .data, .data, .sentinel, .sentinel, .widerDeep, .widerDeep, .widerDeep, .widerDeep], laidTests := true, laidLooks := .later }
def RulecodeJoinsCardSaid : Prop := Claim7.holds Tryd.pinned (.plain (OpenSpec.ofChange rulecodeJoinsSpec)) rulecodeJoinsCard

/-- THE SECOND FORM's CARD OF 'quaysidelaw45.RulecodeBreaks'. -/
def rulecodeBreaksUptoCard : Claim7 := { stood := { row := rulecodeBreaksUptoRow, standIns := [], harness := (true, "51fcc8fd36bd9727e8a67e600bc3686b91e2c5db3136b5dc9549afc79f71b995"), looks := true }, kinds := [], alts := [], laidByText := true, laidKinds := [.data, .data, .data, .sentinel, .sentinel, .widerDeep, .widerDeep, .widerDeep, .widerDeep], laidTests := true, laidLooks := .later }
def RulecodeBreaksUptoCardSaid : Prop := Claim7.holds Tryd.pinned (.plain (OpenSpec.upto rulecodeBreaksSpec)) rulecodeBreaksUptoCard

/-- THE SECOND FORM's CARD OF 'quaysidelaw45.RulecodeJoins'. -/
def rulecodeJoinsUptoCard : Claim7 := { stood := { row := rulecodeJoinsUptoRow, standIns := [], harness := (true, "51fcc8fd36bd9727e8a67e600bc3686b91e2c5db3136b5dc9549afc79f71b995"), looks := true }, kinds := [], alts := [], laidByText := true, laidKinds := [.data, .data, .data, .sentinel, .sentinel, .widerDeep, .widerDeep, .widerDeep, .widerDeep], laidTests := true, laidLooks := .later }
def RulecodeJoinsUptoCardSaid : Prop := Claim7.holds Tryd.pinned (.plain (OpenSpec.upto rulecodeJoinsSpec)) rulecodeJoinsUptoCard
end Rows
end Go.Proofs.YtkpipkpdnbconaaDoor
