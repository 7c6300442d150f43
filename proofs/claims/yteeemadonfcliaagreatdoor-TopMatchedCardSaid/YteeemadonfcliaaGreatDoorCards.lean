/-
  DERIVED. GIVEN WITH THE SEED: THE CARDS: each row of YteeemadonfcliaaGreatDoorRows.lean that lists a variable, with what it lists TIED to the program's text (the seventh form; the later family's looks); each row that meets fmt, with fmt's text TOLD by the authors' own Lean function (tested against real Go, not proved from fmt's source: count such statements apart). THE CARD IS WHAT COUNTS. Prove the row's statement (the work); the ties are given (YteeemadonfcliaaGreatDoorTie.lean); close each card by the builder's one call (the guide's Derived/Test/ToyasCard.lean, 'card_holds'). Laid BY PROGRAM, IN A SANDBOX (cutbox-door.mjs). By AI agents, Wed Nov 11 2026. No macro, syntax, notation, axiom, sorry.
-/
import Derived.Test.YteeemadonfcliaaGreatDoorRows
import GoSem.ClaimSeven
namespace Go.Proofs.YteeemadonfcliaaGreatDoor
namespace Rows

/-- THE TIED CARD OF 'arbactop.TopMatched'. -/
def topMatchedCard : Claim7 := { stood := { row := topMatchedRow, standIns := [], harness := (true, "459ccb727eb5552bcfe148372cf6cf4c4459d2be26bdc9a6f8a781736f59074c"), looks := false }, kinds := [], alts := [], laidByText := true, laidKinds := [.data], laidTests := true, laidLooks := .later }
def TopMatchedCardSaid : Prop := Claim7.holds Tryz.pinned (.plain (OpenSpec.ofChange topMatchedSpec)) topMatchedCard

/-- THE SECOND FORM's CARD OF 'arbactop.TopMatched'. -/
def topMatchedUptoCard : Claim7 := { stood := { row := topMatchedUptoRow, standIns := [], harness := (true, "459ccb727eb5552bcfe148372cf6cf4c4459d2be26bdc9a6f8a781736f59074c"), looks := false }, kinds := [], alts := [], laidByText := true, laidKinds := [.data], laidTests := true, laidLooks := .later }
def TopMatchedUptoCardSaid : Prop := Claim7.holds Tryz.pinned (.plain (OpenSpec.upto topMatchedSpec)) topMatchedUptoCard
end Rows
end Go.Proofs.YteeemadonfcliaaGreatDoor
