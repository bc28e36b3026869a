/-
  DERIVED. GIVEN WITH THE SEED: THE CARDS: each row of YteliaeachmkiaaaDoorRows.lean that lists a variable, with what it lists TIED to the program's text (the seventh form; the later family's looks); each row that meets fmt, with fmt's text TOLD by the authors' own Lean function (tested against real Go, not proved from fmt's source: count such statements apart). THE CARD IS WHAT COUNTS. Prove the row's statement (the work); the ties are given (YteliaeachmkiaaaDoorTie.lean); close each card by the builder's one call (the guide's Derived/Test/ToyasCard.lean, 'card_holds'). Laid BY PROGRAM, IN A SANDBOX (cutbox-door.mjs). By AI agents, Wed Nov 11 2026. No macro, syntax, notation, axiom, sorry.
-/
import Derived.Test.YteliaeachmkiaaaDoorRows
import GoSem.ClaimSeven
namespace Go.Proofs.YteliaeachmkiaaaDoor
namespace Rows

/-- THE TIED CARD OF 'quaysidetop.WholeVariants'. -/
def wholeVariantsCard : Claim7 := { stood := { row := wholeVariantsRow, standIns := [], harness := (true, "77727b69df17e0ae326b19d29b06bbd3db83890b99492f6b0fa9ad678a2c3d78"), looks := false }, kinds := [], alts := [], laidByText := true, laidKinds := [.data, .pinned], laidTests := true, laidLooks := .later }
def WholeVariantsCardSaid : Prop := Claim7.holds Tryd.pinned (.plain (OpenSpec.ofChange wholeVariantsSpec)) wholeVariantsCard

/-- THE SECOND FORM's CARD OF 'quaysidetop.WholeVariants'. -/
def wholeVariantsUptoCard : Claim7 := { stood := { row := wholeVariantsUptoRow, standIns := [], harness := (true, "77727b69df17e0ae326b19d29b06bbd3db83890b99492f6b0fa9ad678a2c3d78"), looks := false }, kinds := [], alts := [], laidByText := true, laidKinds := [.data, .pinned], laidTests := true, laidLooks := .later }
def WholeVariantsUptoCardSaid : Prop := Claim7.holds Tryd.pinned (.plain (OpenSpec.upto wholeVariantsSpec)) wholeVariantsUptoCard
end Rows
end Go.Proofs.YteliaeachmkiaaaDoor
