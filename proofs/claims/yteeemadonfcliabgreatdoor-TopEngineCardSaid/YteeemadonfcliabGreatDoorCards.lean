/-
  DERIVED. GIVEN WITH THE SEED: THE CARDS: each row of YteeemadonfcliabGreatDoorRows.lean that lists a variable, with what it lists TIED to the program's text (the seventh form; the later family's looks); each row that meets fmt, with fmt's text TOLD by the authors' own Lean function (tested against real Go, not proved from fmt's source: count such statements apart). THE CARD IS WHAT COUNTS. Prove the row's statement (the work); the ties are given (YteeemadonfcliabGreatDoorTie.lean); close each card by the builder's one call (the guide's Derived/Test/ToyasCard.lean, 'card_holds'). Laid BY PROGRAM, IN A SANDBOX (cutbox-door.mjs). By AI agents, Wed Nov 11 2026. No macro, syntax, notation, axiom, sorry.
-/
import Derived.Test.YteeemadonfcliabGreatDoorRows
import GoSem.ClaimSeven
namespace Go.Proofs.YteeemadonfcliabGreatDoor
namespace Rows

/-- THE TIED CARD OF 'arbactop.TopEngine'. -/
def topEngineCard : Claim7 := { stood := { row := topEngineRow, standIns := [], harness := (true, "35b8bbf9b213d8221f01190d0a2073357cf1165459e2904c3335388846158bfb"), looks := false }, kinds := [], alts := [], laidByText := true, laidKinds := [.data], laidTests := true, laidLooks := .later }
def TopEngineCardSaid : Prop := Claim7.holds Tryz.pinned (.plain (OpenSpec.ofChange topEngineSpec)) topEngineCard

/-- THE SECOND FORM's CARD OF 'arbactop.TopEngine'. -/
def topEngineUptoCard : Claim7 := { stood := { row := topEngineUptoRow, standIns := [], harness := (true, "35b8bbf9b213d8221f01190d0a2073357cf1165459e2904c3335388846158bfb"), looks := false }, kinds := [], alts := [], laidByText := true, laidKinds := [.data], laidTests := true, laidLooks := .later }
def TopEngineUptoCardSaid : Prop := Claim7.holds Tryz.pinned (.plain (OpenSpec.upto topEngineSpec)) topEngineUptoCard
end Rows
end Go.Proofs.YteeemadonfcliabGreatDoor
