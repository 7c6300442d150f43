/-
  DERIVED. GIVEN WITH THE SEED: THE CARDS: each row of YtgbbplbmbapejaaGreatDoorRows.lean that lists a variable, with what it lists TIED to the program's text (the seventh form; the later family's looks); each row that meets fmt, with fmt's text TOLD by the authors' own Lean function (tested against real Go, not proved from fmt's source: count such statements apart). THE CARD IS WHAT COUNTS. Prove the row's statement (the work); the ties are given (YtgbbplbmbapejaaGreatDoorTie.lean); close each card by the builder's one call (the guide's Derived/Test/ToyasCard.lean, 'card_holds'). Laid BY PROGRAM, IN A SANDBOX (cutbox-door.mjs). By AI agents, Wed Nov 11 2026. No macro, syntax, notation, axiom, sorry.
-/
import Derived.Test.YtgbbplbmbapejaaGreatDoorRows
import GoSem.ClaimSeven
namespace Go.Proofs.YtgbbplbmbapejaaGreatDoor
namespace Rows

/-- THE TIED CARD OF 'arbaclaw40.FlowPrints'. -/
def flowPrintsCard : Claim7 := { stood := { row := flowPrintsRow, standIns := [], harness := (true, "bad3e5864678d8735283572cfa0971ef0f00edd6f4c58478a4cb31ce33714054"), looks := true }, kinds := [], alts := [], laidByText := true, laidKinds := [.data, .data, .data], laidTests := true, laidLooks := .later }
def FlowPrintsCardSaid : Prop := Claim7.holds Tryz.pinned (.plain (OpenSpec.ofChange flowPrintsSpec)) flowPrintsCard

/-- THE SECOND FORM's CARD OF 'arbaclaw40.FlowPrints'. -/
def flowPrintsUptoCard : Claim7 := { stood := { row := flowPrintsUptoRow, standIns := [], harness := (true, "bad3e5864678d8735283572cfa0971ef0f00edd6f4c58478a4cb31ce33714054"), looks := true }, kinds := [], alts := [], laidByText := true, laidKinds := [.data, .data, .data], laidTests := true, laidLooks := .later }
def FlowPrintsUptoCardSaid : Prop := Claim7.holds Tryz.pinned (.plain (OpenSpec.upto flowPrintsSpec)) flowPrintsUptoCard
end Rows
end Go.Proofs.YtgbbplbmbapejaaGreatDoor
