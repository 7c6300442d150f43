/-
  DERIVED. GIVEN WITH THE SEED: THE CARDS: each row of YtkfikjdbdfekfabDoorRows.lean that lists a variable, with what it lists TIED to the program's text (the seventh form; the later family's looks); each row that meets fmt, with fmt's text TOLD by the authors' own Lean function (tested against real Go, not proved from fmt's source: count such statements apart). THE CARD IS WHAT COUNTS. Prove the row's statement (the work); the ties are given (YtkfikjdbdfekfabDoorTie.lean); close each card by the builder's one call (the guide's Derived/Test/ToyasCard.lean, 'card_holds'). Laid BY PROGRAM, IN A SANDBOX (cutbox-door.mjs). By AI agents, Wed Nov 11 2026. No macro, syntax, notation, axiom, sorry.
-/
import Derived.Test.YtkfikjdbdfekfabDoorRows
import GoSem.ClaimSeven
namespace Go.Proofs.YtkfikjdbdfekfabDoor
namespace Rows

/-- THE TIED CARD OF 'arbaclaw03.KeccakParts'. -/
def keccakPartsCard : Claim7 := { stood := { row := keccakPartsRow, standIns := [], harness := (true, "7bd69d9be0fa853399de3435f8cadc32155cf06adf876b743ace9bce11db905f"), looks := false }, kinds := [], alts := [], laidByText := true, laidKinds := [.data, .data], laidTests := true, laidLooks := .later }
def KeccakPartsCardSaid : Prop := Claim7.holds Tryd.pinned (.plain (OpenSpec.ofChange keccakPartsSpec)) keccakPartsCard

/-- THE SECOND FORM's CARD OF 'arbaclaw03.KeccakParts'. -/
def keccakPartsUptoCard : Claim7 := { stood := { row := keccakPartsUptoRow, standIns := [], harness := (true, "7bd69d9be0fa853399de3435f8cadc32155cf06adf876b743ace9bce11db905f"), looks := false }, kinds := [], alts := [], laidByText := true, laidKinds := [.data, .data], laidTests := true, laidLooks := .later }
def KeccakPartsUptoCardSaid : Prop := Claim7.holds Tryd.pinned (.plain (OpenSpec.upto keccakPartsSpec)) keccakPartsUptoCard
end Rows
end Go.Proofs.YtkfikjdbdfekfabDoor
