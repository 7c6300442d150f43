/-
  DERIVED. GIVEN WITH THE SEED: THE CARDS: each row of YtjiacmbjgccfcaaDoorRows.lean that lists a variable, with what it lists TIED to the program's text (the seventh form; the later family's looks); each row that meets fmt, with fmt's text TOLD by the authors' own Lean function (tested against real Go, not proved from fmt's source: count such statements apart). THE CARD IS WHAT COUNTS. Prove the row's statement (the work); the ties are given (YtjiacmbjgccfcaaDoorTie.lean); close each card by the builder's one call (the guide's Derived/Test/ToyasCard.lean, 'card_holds'). Laid BY PROGRAM, IN A SANDBOX (cutbox-door.mjs). By AI agents, Wed Nov 11 2026. No macro, syntax, notation, axiom, sorry.
-/
import Derived.Test.YtjiacmbjgccfcaaDoorRows
import GoSem.ClaimSeven
namespace Go.Proofs.YtjiacmbjgccfcaaDoor
namespace Rows

/-- THE TIED CARD OF 'arbaclaw40.FlowChecks'. -/
def flowChecksCard : Claim7 := { stood := { row := flowChecksRow, standIns := [], harness := (true, "5f276942d0f977dc47afd9750da3181d8ff886e90244680afef4779e5a77fa67"), looks := false }, kinds := [], alts := [], laidByText := true, laidKinds := [.data], laidTests := true, laidLooks := .later }
def FlowChecksCardSaid : Prop := Claim7.holds Tryd.pinned (.plain (OpenSpec.ofChange flowChecksSpec)) flowChecksCard

/-- THE TIED CARD OF 'arbaclaw40.FlowOrders'. -/
def flowOrdersCard : Claim7 := { stood := { row := flowOrdersRow, standIns := [], harness := (true, "5f276942d0f977dc47afd9750da3181d8ff886e90244680afef4779e5a77fa67"), looks := false }, kinds := [], alts := [], laidByText := true, laidKinds := [.data], laidTests := true, laidLooks := .later }
def FlowOrdersCardSaid : Prop := Claim7.holds Tryd.pinned (.plain (OpenSpec.ofChange flowOrdersSpec)) flowOrdersCard

/-- THE TIED CARD OF 'arbaclaw40.FlowHolds'. -/
def flowHoldsCard : Claim7 := { stood := { row := flowHoldsRow, standIns := [], harness := (true, "5f276942d0f977dc47afd9750da3181d8ff886e90244680afef4779e5a77fa67"), looks := false }, kinds := [], alts := [], laidByText := true, laidKinds := [.data], laidTests := true, laidLooks := .later }
def FlowHoldsCardSaid : Prop := Claim7.holds Tryd.pinned (.plain (OpenSpec.ofChange flowHoldsSpec)) flowHoldsCard

/-- THE TIED CARD OF 'arbaclaw40.FlowParts'. -/
def flowPartsCard : Claim7 := { stood := { row := flowPartsRow, standIns := [], harness := (true, "5f276942d0f977dc47afd9750da3181d8ff886e90244680afef4779e5a77fa67"), looks := false }, kinds := [], alts := [], laidByText := true, laidKinds := [.data], laidTests := true, laidLooks := .later }
def FlowPartsCardSaid : Prop := Claim7.holds Tryd.pinned (.plain (OpenSpec.ofChange flowPartsSpec)) flowPartsCard

/-- THE TIED CARD OF 'arbaclaw40.FlowSorted'. -/
def flowSortedCard : Claim7 := { stood := { row := flowSortedRow, standIns := [], harness := (true, "5f276942d0f977dc47afd9750da3181d8ff886e90244680afef4779e5a77fa67"), looks := false }, kinds := [], alts := [], laidByText := true, laidKinds := [.data], laidTests := true, laidLooks := .later }
def FlowSortedCardSaid : Prop := Claim7.holds Tryd.pinned (.plain (OpenSpec.ofChange flowSortedSpec)) flowSortedCard

/-- THE TIED CARD OF 'arbaclaw40.FlowEquals'. -/
def flowEqualsCard : Claim7 := { stood := { row := flowEqualsRow, standIns := [], harness := (true, "5f276942d0f977dc47afd9750da3181d8ff886e90244680afef4779e5a77fa67"), looks := false }, kinds := [], alts := [], laidByText := true, laidKinds := [.data], laidTests := true, laidLooks := .later }
def FlowEqualsCardSaid : Prop := Claim7.holds Tryd.pinned (.plain (OpenSpec.ofChange flowEqualsSpec)) flowEqualsCard

/-- THE SECOND FORM's CARD OF 'arbaclaw40.FlowChecks'. -/
def flowChecksUptoCard : Claim7 := { stood := { row := flowChecksUptoRow, standIns := [], harness := (true, "5f276942d0f977dc47afd9750da3181d8ff886e90244680afef4779e5a77fa67"), looks := false }, kinds := [], alts := [], laidByText := true, laidKinds := [.data], laidTests := true, laidLooks := .later }
def FlowChecksUptoCardSaid : Prop := Claim7.holds Tryd.pinned (.plain (OpenSpec.upto flowChecksSpec)) flowChecksUptoCard

/-- THE SECOND FORM's CARD OF 'arbaclaw40.FlowOrders'. -/
def flowOrdersUptoCard : Claim7 := { stood := { row := flowOrdersUptoRow, standIns := [], harness := (true, "5f276942d0f977dc47afd9750da3181d8ff886e90244680afef4779e5a77fa67"), looks := false }, kinds := [], alts := [], laidByText := true, laidKinds := [.data], laidTests := true, laidLooks := .later }
def FlowOrdersUptoCardSaid : Prop := Claim7.holds Tryd.pinned (.plain (OpenSpec.upto flowOrdersSpec)) flowOrdersUptoCard

/-- THE SECOND FORM's CARD OF 'arbaclaw40.FlowHolds'. -/
def flowHoldsUptoCard : Claim7 := { stood := { row := flowHoldsUptoRow, standIns := [], harness := (true, "5f276942d0f977dc47afd9750da3181d8ff886e90244680afef4779e5a77fa67"), looks := false }, kinds := [], alts := [], laidByText := true, laidKinds := [.data], laidTests := true, laidLooks := .later }
def FlowHoldsUptoCardSaid : Prop := Claim7.holds Tryd.pinned (.plain (OpenSpec.upto flowHoldsSpec)) flowHoldsUptoCard

/-- THE SECOND FORM's CARD OF 'arbaclaw40.FlowParts'. -/
def flowPartsUptoCard : Claim7 := { stood := { row := flowPartsUptoRow, standIns := [], harness := (true, "5f276942d0f977dc47afd9750da3181d8ff886e90244680afef4779e5a77fa67"), looks := false }, kinds := [], alts := [], laidByText := true, laidKinds := [.data], laidTests := true, laidLooks := .later }
def FlowPartsUptoCardSaid : Prop := Claim7.holds Tryd.pinned (.plain (OpenSpec.upto flowPartsSpec)) flowPartsUptoCard

/-- THE SECOND FORM's CARD OF 'arbaclaw40.FlowSorted'. -/
def flowSortedUptoCard : Claim7 := { stood := { row := flowSortedUptoRow, standIns := [], harness := (true, "5f276942d0f977dc47afd9750da3181d8ff886e90244680afef4779e5a77fa67"), looks := false }, kinds := [], alts := [], laidByText := true, laidKinds := [.data], laidTests := true, laidLooks := .later }
def FlowSortedUptoCardSaid : Prop := Claim7.holds Tryd.pinned (.plain (OpenSpec.upto flowSortedSpec)) flowSortedUptoCard

/-- THE SECOND FORM's CARD OF 'arbaclaw40.FlowEquals'. -/
def flowEqualsUptoCard : Claim7 := { stood := { row := flowEqualsUptoRow, standIns := [], harness := (true, "5f276942d0f977dc47afd9750da3181d8ff886e90244680afef4779e5a77fa67"), looks := false }, kinds := [], alts := [], laidByText := true, laidKinds := [.data], laidTests := true, laidLooks := .later }
def FlowEqualsUptoCardSaid : Prop := Claim7.holds Tryd.pinned (.plain (OpenSpec.upto flowEqualsSpec)) flowEqualsUptoCard
end Rows
end Go.Proofs.YtjiacmbjgccfcaaDoor
