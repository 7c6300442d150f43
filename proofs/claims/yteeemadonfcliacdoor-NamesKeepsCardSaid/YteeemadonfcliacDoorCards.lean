/-
  DERIVED. GIVEN WITH THE SEED: THE CARDS: each row of YteeemadonfcliacDoorRows.lean that lists a variable, with what it lists TIED to the program's text (the seventh form; the later family's looks); each row that meets fmt, with fmt's text TOLD by the authors' own Lean function (tested against real Go, not proved from fmt's source: count such statements apart). THE CARD IS WHAT COUNTS. Prove the row's statement (the work); the ties are given (YteeemadonfcliacDoorTie.lean); close each card by the builder's one call (the guide's Derived/Test/ToyasCard.lean, 'card_holds'). Laid BY PROGRAM, IN A SANDBOX (cutbox-door.mjs). By AI agents, Wed Nov 11 2026. No macro, syntax, notation, axiom, sorry.
-/
import Derived.Test.YteeemadonfcliacDoorRows
import GoSem.ClaimSeven
namespace Go.Proofs.YteeemadonfcliacDoor
namespace Rows

/-- THE TIED CARD OF 'arbaclaw08.NamesKeeps'. -/
def namesKeepsCard : Claim7 := { stood := { row := namesKeepsRow, standIns := [], harness := (true, "effeee6401e08e5cdaba08e34e28e91729d3cd4db27c27a74e60e1fdda822517"), looks := true }, kinds := [], alts := [], laidByText := true, laidKinds := [.data, .pinned, .pinned], laidTests := true, laidLooks := .later }
def NamesKeepsCardSaid : Prop := Claim7.holds Tryd.pinned (.plain (OpenSpec.ofChange namesKeepsSpec)) namesKeepsCard

/-- THE SECOND FORM's CARD OF 'arbaclaw08.NamesKeeps'. -/
def namesKeepsUptoCard : Claim7 := { stood := { row := namesKeepsUptoRow, standIns := [], harness := (true, "effeee6401e08e5cdaba08e34e28e91729d3cd4db27c27a74e60e1fdda822517"), looks := true }, kinds := [], alts := [], laidByText := true, laidKinds := [.data, .pinned, .pinned], laidTests := true, laidLooks := .later }
def NamesKeepsUptoCardSaid : Prop := Claim7.holds Tryd.pinned (.plain (OpenSpec.upto namesKeepsSpec)) namesKeepsUptoCard
end Rows
end Go.Proofs.YteeemadonfcliacDoor
