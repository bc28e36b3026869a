/-
  DERIVED. GIVEN WITH THE SEED: THE CARDS: each row of YtlpjmfojahofnaaDoorRows.lean that lists a variable, with what it lists TIED to the program's text (the seventh form; the later family's looks); each row that meets fmt, with fmt's text TOLD by the authors' own Lean function (tested against real Go, not proved from fmt's source: count such statements apart). THE CARD IS WHAT COUNTS. Prove the row's statement (the work); the ties are given (YtlpjmfojahofnaaDoorTie.lean); close each card by the builder's one call (the guide's Derived/Test/ToyasCard.lean, 'card_holds'). Laid BY PROGRAM, IN A SANDBOX (cutbox-door.mjs). By AI agents, Wed Nov 11 2026. No macro, syntax, notation, axiom, sorry.
-/
import Derived.Test.YtlpjmfojahofnaaDoorRows
import GoSem.ClaimSeven
namespace Go.Proofs.YtlpjmfojahofnaaDoor
namespace Rows

/-- THE TIED CARD OF 'quaysidelaw16.VaryNames'. -/
def varyNamesCard : Claim7 := { stood := { row := varyNamesRow, standIns := [], harness := (true, "634301117da984678a7b8a3d8b27ea3eb896bf14589d37a2561da25d63a1c47e"), looks := false }, kinds := [], alts := [], laidByText := true, laidKinds := [.data, .pinned], laidTests := true, laidLooks := .later }
def VaryNamesCardSaid : Prop := Claim7.holds Tryd.pinned (.plain (OpenSpec.ofChange varyNamesSpec)) varyNamesCard

/-- THE SECOND FORM's CARD OF 'quaysidelaw16.VaryNames'. -/
def varyNamesUptoCard : Claim7 := { stood := { row := varyNamesUptoRow, standIns := [], harness := (true, "634301117da984678a7b8a3d8b27ea3eb896bf14589d37a2561da25d63a1c47e"), looks := false }, kinds := [], alts := [], laidByText := true, laidKinds := [.data, .pinned], laidTests := true, laidLooks := .later }
def VaryNamesUptoCardSaid : Prop := Claim7.holds Tryd.pinned (.plain (OpenSpec.upto varyNamesSpec)) varyNamesUptoCard
end Rows
end Go.Proofs.YtlpjmfojahofnaaDoor
