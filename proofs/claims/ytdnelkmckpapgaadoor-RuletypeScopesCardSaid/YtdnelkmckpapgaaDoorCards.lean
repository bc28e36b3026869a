/-
  DERIVED. GIVEN WITH THE SEED: THE CARDS: each row of YtdnelkmckpapgaaDoorRows.lean that lists a variable, with what it lists TIED to the program's text (the seventh form; the later family's looks); each row that meets fmt, with fmt's text TOLD by the authors' own Lean function (tested against real Go, not proved from fmt's source: count such statements apart). THE CARD IS WHAT COUNTS. Prove the row's statement (the work); the ties are given (YtdnelkmckpapgaaDoorTie.lean); close each card by the builder's one call (the guide's Derived/Test/ToyasCard.lean, 'card_holds'). Laid BY PROGRAM, IN A SANDBOX (cutbox-door.mjs). By AI agents, Wed Nov 11 2026. No macro, syntax, notation, axiom, sorry.
-/
import Derived.Test.YtdnelkmckpapgaaDoorRows
import GoSem.ClaimSeven
namespace Go.Proofs.YtdnelkmckpapgaaDoor
namespace Rows

/-- THE TIED CARD OF 'quaysidelaw44.RuletypeChecks'. -/
def ruletypeChecksCard : Claim7 := { stood := { row := ruletypeChecksRow, standIns := [], harness := (true, "b09c3a45cd418f0620f51f8868b87a0161999b50dbc96c6150c0e6f9416f441d"), looks := true }, kinds := [], alts := [], laidByText := true, laidKinds := [.widerDeep], laidTests := true, laidLooks := .later }
def RuletypeChecksCardSaid : Prop := Claim7.holds Tryd.pinned (.plain (OpenSpec.ofChange ruletypeChecksSpec)) ruletypeChecksCard

/-- THE TIED CARD OF 'quaysidelaw44.RuletypePrefixes'. -/
def ruletypePrefixesCard : Claim7 := { stood := { row := ruletypePrefixesRow, standIns := [], harness := (true, "b09c3a45cd418f0620f51f8868b87a0161999b50dbc96c6150c0e6f9416f441d"), looks := true }, kinds := [], alts := [], laidByText := true, laidKinds := [.widerDeep], laidTests := true, laidLooks := .later }
def RuletypePrefixesCardSaid : Prop := Claim7.holds Tryd.pinned (.plain (OpenSpec.ofChange ruletypePrefixesSpec)) ruletypePrefixesCard

/-- THE TIED CARD OF 'quaysidelaw44.RuletypeLines'. -/
def ruletypeLinesCard : Claim7 := { stood := { row := ruletypeLinesRow, standIns := [], harness := (true, "b09c3a45cd418f0620f51f8868b87a0161999b50dbc96c6150c0e6f9416f441d"), looks := true }, kinds := [], alts := [], laidByText := true, laidKinds := [.widerDeep], laidTests := true, laidLooks := .later }
def RuletypeLinesCardSaid : Prop := Claim7.holds Tryd.pinned (.plain (OpenSpec.ofChange ruletypeLinesSpec)) ruletypeLinesCard

/-- THE TIED CARD OF 'quaysidelaw44.RuletypeScopes'. -/
def ruletypeScopesCard : Claim7 := { stood := { row := ruletypeScopesRow, standIns := [], harness := (true, "b09c3a45cd418f0620f51f8868b87a0161999b50dbc96c6150c0e6f9416f441d"), looks := true }, kinds := [], alts := [], laidByText := true, laidKinds := [.widerDeep], laidTests := true, laidLooks := .later }
def RuletypeScopesCardSaid : Prop := Claim7.holds Tryd.pinned (.plain (OpenSpec.ofChange ruletypeScopesSpec)) ruletypeScopesCard

/-- THE TIED CARD OF 'quaysidelaw44.RuletypeOf'. -/
def ruletypeOfCard : Claim7 := { stood := { row := ruletypeOfRow, standIns := [], harness := (true, "b09c3a45cd418f0620f51f8868b87a0161999b50dbc96c6150c0e6f9416f441d"), looks := true }, kinds := [], alts := [], laidByText := true, laidKinds := [.widerDeep], laidTests := true, laidLooks := .later }
def RuletypeOfCardSaid : Prop := Claim7.holds Tryd.pinned (.plain (OpenSpec.ofChange ruletypeOfSpec)) ruletypeOfCard

/-- THE TIED CARD OF 'quaysidelaw44.RuletypeNames'. -/
def ruletypeNamesCard : Claim7 := { stood := { row := ruletypeNamesRow, standIns := [], harness := (true, "b09c3a45cd418f0620f51f8868b87a0161999b50dbc96c6150c0e6f9416f441d"), looks := true }, kinds := [], alts := [], laidByText := true, laidKinds := [.widerDeep], laidTests := true, laidLooks := .later }
def RuletypeNamesCardSaid : Prop := Claim7.holds Tryd.pinned (.plain (OpenSpec.ofChange ruletypeNamesSpec)) ruletypeNamesCard

/-- THE TIED CARD OF 'quaysidelaw44.RuletypeWorst'. -/
def ruletypeWorstCard : Claim7 := { stood := { row := ruletypeWorstRow, standIns := [], harness := (true, "b09c3a45cd418f0620f51f8868b87a0161999b50dbc96c6150c0e6f9416f441d"), looks := true }, kinds := [], alts := [], laidByText := true, laidKinds := [.widerDeep], laidTests := true, laidLooks := .later }
def RuletypeWorstCardSaid : Prop := Claim7.holds Tryd.pinned (.plain (OpenSpec.ofChange ruletypeWorstSpec)) ruletypeWorstCard

/-- THE TIED CARD OF 'quaysidelaw44.RuletypeSums'. -/
def ruletypeSumsCard : Claim7 := { stood := { row := ruletypeSumsRow, standIns := [], harness := (true, "b09c3a45cd418f0620f51f8868b87a0161999b50dbc96c6150c0e6f9416f441d"), looks := true }, kinds := [], alts := [], laidByText := true, laidKinds := [.widerDeep], laidTests := true, laidLooks := .later }
def RuletypeSumsCardSaid : Prop := Claim7.holds Tryd.pinned (.plain (OpenSpec.ofChange ruletypeSumsSpec)) ruletypeSumsCard

/-- THE SECOND FORM's CARD OF 'quaysidelaw44.RuletypeChecks'. -/
def ruletypeChecksUptoCard : Claim7 := { stood := { row := ruletypeChecksUptoRow, standIns := [], harness := (true, "b09c3a45cd418f0620f51f8868b87a0161999b50dbc96c6150c0e6f9416f441d"), looks := true }, kinds := [], alts := [], laidByText := true, laidKinds := [.widerDeep], laidTests := true, laidLooks := .later }
def RuletypeChecksUptoCardSaid : Prop := Claim7.holds Tryd.pinned (.plain (OpenSpec.upto ruletypeChecksSpec)) ruletypeChecksUptoCard

/-- THE SECOND FORM's CARD OF 'quaysidelaw44.RuletypePrefixes'. -/
def ruletypePrefixesUptoCard : Claim7 := { stood := { row := ruletypePrefixesUptoRow, standIns := [], harness := (true, "b09c3a45cd418f0620f51f8868b87a0161999b50dbc96c6150c0e6f9416f441d"), looks := true }, kinds := [], alts := [], laidByText := true, laidKinds := [.widerDeep], laidTests := true, laidLooks := .later }
def RuletypePrefixesUptoCardSaid : Prop := Claim7.holds Tryd.pinned (.plain (OpenSpec.upto ruletypePrefixesSpec)) ruletypePrefixesUptoCard

/-- THE SECOND FORM's CARD OF 'quaysidelaw44.RuletypeLines'. -/
def ruletypeLinesUptoCard : Claim7 := { stood := { row := ruletypeLinesUptoRow, standIns := [], harness := (true, "b09c3a45cd418f0620f51f8868b87a0161999b50dbc96c6150c0e6f9416f441d"), looks := true }, kinds := [], alts := [], laidByText := true, laidKinds := [.widerDeep], laidTests := true, laidLooks := .later }
def RuletypeLinesUptoCardSaid : Prop := Claim7.holds Tryd.pinned (.plain (OpenSpec.upto ruletypeLinesSpec)) ruletypeLinesUptoCard

/-- THE SECOND FORM's CARD OF 'quaysidelaw44.RuletypeScopes'. -/
def ruletypeScopesUptoCard : Claim7 := { stood := { row := ruletypeScopesUptoRow, standIns := [], harness := (true, "b09c3a45cd418f0620f51f8868b87a0161999b50dbc96c6150c0e6f9416f441d"), looks := true }, kinds := [], alts := [], laidByText := true, laidKinds := [.widerDeep], laidTests := true, laidLooks := .later }
def RuletypeScopesUptoCardSaid : Prop := Claim7.holds Tryd.pinned (.plain (OpenSpec.upto ruletypeScopesSpec)) ruletypeScopesUptoCard

/-- THE SECOND FORM's CARD OF 'quaysidelaw44.RuletypeOf'. -/
def ruletypeOfUptoCard : Claim7 := { stood := { row := ruletypeOfUptoRow, standIns := [], harness := (true, "b09c3a45cd418f0620f51f8868b87a0161999b50dbc96c6150c0e6f9416f441d"), looks := true }, kinds := [], alts := [], laidByText := true, laidKinds := [.widerDeep], laidTests := true, laidLooks := .later }
def RuletypeOfUptoCardSaid : Prop := Claim7.holds Tryd.pinned (.plain (OpenSpec.upto ruletypeOfSpec)) ruletypeOfUptoCard

/-- THE SECOND FORM's CARD OF 'quaysidelaw44.RuletypeNames'. -/
def ruletypeNamesUptoCard : Claim7 := { stood := { row := ruletypeNamesUptoRow, standIns := [], harness := (true, "b09c3a45cd418f0620f51f8868b87a0161999b50dbc96c6150c0e6f9416f441d"), looks := true }, kinds := [], alts := [], laidByText := true, laidKinds := [.widerDeep], laidTests := true, laidLooks := .later }
def RuletypeNamesUptoCardSaid : Prop := Claim7.holds Tryd.pinned (.plain (OpenSpec.upto ruletypeNamesSpec)) ruletypeNamesUptoCard

/-- THE SECOND FORM's CARD OF 'quaysidelaw44.RuletypeWorst'. -/
def ruletypeWorstUptoCard : Claim7 := { stood := { row := ruletypeWorstUptoRow, standIns := [], harness := (true, "b09c3a45cd418f0620f51f8868b87a0161999b50dbc96c6150c0e6f9416f441d"), looks := true }, kinds := [], alts := [], laidByText := true, laidKinds := [.widerDeep], laidTests := true, laidLooks := .later }
def RuletypeWorstUptoCardSaid : Prop := Claim7.holds Tryd.pinned (.plain (OpenSpec.upto ruletypeWorstSpec)) ruletypeWorstUptoCard

/-- THE SECOND FORM's CARD OF 'quaysidelaw44.RuletypeSums'. -/
def ruletypeSumsUptoCard : Claim7 := { stood := { row := ruletypeSumsUptoRow, standIns := [], harness := (true, "b09c3a45cd418f0620f51f8868b87a0161999b50dbc96c6150c0e6f9416f441d"), looks := true }, kinds := [], alts := [], laidByText := true, laidKinds := [.widerDeep], laidTests := true, laidLooks := .later }
def RuletypeSumsUptoCardSaid : Prop := Claim7.holds Tryd.pinned (.plain (OpenSpec.upto ruletypeSumsSpec)) ruletypeSumsUptoCard
end Rows
end Go.Proofs.YtdnelkmckpapgaaDoor
