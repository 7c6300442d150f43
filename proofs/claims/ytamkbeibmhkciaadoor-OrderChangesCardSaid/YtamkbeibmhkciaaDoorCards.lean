/-
  DERIVED. GIVEN WITH THE SEED: THE CARDS: each row of YtamkbeibmhkciaaDoorRows.lean that lists a variable, with what it lists TIED to the program's text (the seventh form; the later family's looks); each row that meets fmt, with fmt's text TOLD by the authors' own Lean function (tested against real Go, not proved from fmt's source: count such statements apart). THE CARD IS WHAT COUNTS. Prove the row's statement (the work); the ties are given (YtamkbeibmhkciaaDoorTie.lean); close each card by the builder's one call (the guide's Derived/Test/ToyasCard.lean, 'card_holds'). Laid BY PROGRAM, IN A SANDBOX (cutbox-door.mjs). By AI agents, Wed Nov 11 2026. No macro, syntax, notation, axiom, sorry.
-/
import Derived.Test.YtamkbeibmhkciaaDoorRows
import GoSem.ClaimSeven
namespace Go.Proofs.YtamkbeibmhkciaaDoor
namespace Rows

/-- THE TIED CARD OF 'arbaclaw06.OrderSorts'. -/
def orderSortsCard : Claim7 := { stood := { row := orderSortsRow, standIns := [], harness := (true, "1cad26131d09812f608804162ef29a1cffdd90f5dabb7f814bbe2c8dd352b9ac"), looks := false }, kinds := [], alts := [], laidByText := true, laidKinds := [.data, .data, .data], laidTests := true, laidLooks := .later }
def OrderSortsCardSaid : Prop := Claim7.holds Tryd.pinned (.plain (OpenSpec.ofChange orderSortsSpec)) orderSortsCard

/-- THE TIED CARD OF 'arbaclaw06.OrderPaths'. -/
def orderPathsCard : Claim7 := { stood := { row := orderPathsRow, standIns := [], harness := (true, "1cad26131d09812f608804162ef29a1cffdd90f5dabb7f814bbe2c8dd352b9ac"), looks := false }, kinds := [], alts := [], laidByText := true, laidKinds := [.data, .data, .data], laidTests := true, laidLooks := .later }
def OrderPathsCardSaid : Prop := Claim7.holds Tryd.pinned (.plain (OpenSpec.ofChange orderPathsSpec)) orderPathsCard

/-- THE TIED CARD OF 'arbaclaw06.OrderPairs'. -/
def orderPairsCard : Claim7 := { stood := { row := orderPairsRow, standIns := [], harness := (true, "1cad26131d09812f608804162ef29a1cffdd90f5dabb7f814bbe2c8dd352b9ac"), looks := false }, kinds := [], alts := [], laidByText := true, laidKinds := [.data, .data, .data], laidTests := true, laidLooks := .later }
def OrderPairsCardSaid : Prop := Claim7.holds Tryd.pinned (.plain (OpenSpec.ofChange orderPairsSpec)) orderPairsCard

/-- THE TIED CARD OF 'arbaclaw06.OrderEnds'. -/
def orderEndsCard : Claim7 := { stood := { row := orderEndsRow, standIns := [], harness := (true, "1cad26131d09812f608804162ef29a1cffdd90f5dabb7f814bbe2c8dd352b9ac"), looks := false }, kinds := [], alts := [], laidByText := true, laidKinds := [.data, .data, .data], laidTests := true, laidLooks := .later }
def OrderEndsCardSaid : Prop := Claim7.holds Tryd.pinned (.plain (OpenSpec.ofChange orderEndsSpec)) orderEndsCard

/-- THE TIED CARD OF 'arbaclaw06.OrderCovers'. -/
def orderCoversCard : Claim7 := { stood := { row := orderCoversRow, standIns := [], harness := (true, "1cad26131d09812f608804162ef29a1cffdd90f5dabb7f814bbe2c8dd352b9ac"), looks := false }, kinds := [], alts := [], laidByText := true, laidKinds := [.data, .data, .data], laidTests := true, laidLooks := .later }
def OrderCoversCardSaid : Prop := Claim7.holds Tryd.pinned (.plain (OpenSpec.ofChange orderCoversSpec)) orderCoversCard

/-- THE TIED CARD OF 'arbaclaw06.OrderMakes'. -/
def orderMakesCard : Claim7 := { stood := { row := orderMakesRow, standIns := [], harness := (true, "1cad26131d09812f608804162ef29a1cffdd90f5dabb7f814bbe2c8dd352b9ac"), looks := false }, kinds := [], alts := [], laidByText := true, laidKinds := [.data, .data, .data], laidTests := true, laidLooks := .later }
def OrderMakesCardSaid : Prop := Claim7.holds Tryd.pinned (.plain (OpenSpec.ofChange orderMakesSpec)) orderMakesCard

/-- THE TIED CARD OF 'arbaclaw06.OrderAsks'. -/
def orderAsksCard : Claim7 := { stood := { row := orderAsksRow, standIns := [], harness := (true, "1cad26131d09812f608804162ef29a1cffdd90f5dabb7f814bbe2c8dd352b9ac"), looks := false }, kinds := [], alts := [], laidByText := true, laidKinds := [.data, .data, .data], laidTests := true, laidLooks := .later }
def OrderAsksCardSaid : Prop := Claim7.holds Tryd.pinned (.plain (OpenSpec.ofChange orderAsksSpec)) orderAsksCard

/-- THE TIED CARD OF 'arbaclaw06.OrderReduces'. -/
def orderReducesCard : Claim7 := { stood := { row := orderReducesRow, standIns := [], harness := (true, "1cad26131d09812f608804162ef29a1cffdd90f5dabb7f814bbe2c8dd352b9ac"), looks := false }, kinds := [], alts := [], laidByText := true, laidKinds := [.data, .data, .data], laidTests := true, laidLooks := .later }
def OrderReducesCardSaid : Prop := Claim7.holds Tryd.pinned (.plain (OpenSpec.ofChange orderReducesSpec)) orderReducesCard

/-- THE TIED CARD OF 'arbaclaw06.OrderChanges'. -/
def orderChangesCard : Claim7 := { stood := { row := orderChangesRow, standIns := [], harness := (true, "1cad26131d09812f608804162ef29a1cffdd90f5dabb7f814bbe2c8dd352b9ac"), looks := false }, kinds := [], alts := [], laidByText := true, laidKinds := [.data, .data, .data], laidTests := true, laidLooks := .later }
def OrderChangesCardSaid : Prop := Claim7.holds Tryd.pinned (.plain (OpenSpec.ofChange orderChangesSpec)) orderChangesCard

/-- THE TIED CARD OF 'arbaclaw06.OrderNil'. -/
def orderNilCard : Claim7 := { stood := { row := orderNilRow, standIns := [], harness := (true, "1cad26131d09812f608804162ef29a1cffdd90f5dabb7f814bbe2c8dd352b9ac"), looks := false }, kinds := [], alts := [], laidByText := true, laidKinds := [.data, .data, .data], laidTests := true, laidLooks := .later }
def OrderNilCardSaid : Prop := Claim7.holds Tryd.pinned (.plain (OpenSpec.ofChange orderNilSpec)) orderNilCard

/-- THE SECOND FORM's CARD OF 'arbaclaw06.OrderSorts'. -/
def orderSortsUptoCard : Claim7 := { stood := { row := orderSortsUptoRow, standIns := [], harness := (true, "1cad26131d09812f608804162ef29a1cffdd90f5dabb7f814bbe2c8dd352b9ac"), looks := false }, kinds := [], alts := [], laidByText := true, laidKinds := [.data, .data, .data], laidTests := true, laidLooks := .later }
def OrderSortsUptoCardSaid : Prop := Claim7.holds Tryd.pinned (.plain (OpenSpec.upto orderSortsSpec)) orderSortsUptoCard

/-- THE SECOND FORM's CARD OF 'arbaclaw06.OrderPaths'. -/
def orderPathsUptoCard : Claim7 := { stood := { row := orderPathsUptoRow, standIns := [], harness := (true, "1cad26131d09812f608804162ef29a1cffdd90f5dabb7f814bbe2c8dd352b9ac"), looks := false }, kinds := [], alts := [], laidByText := true, laidKinds := [.data, .data, .data], laidTests := true, laidLooks := .later }
def OrderPathsUptoCardSaid : Prop := Claim7.holds Tryd.pinned (.plain (OpenSpec.upto orderPathsSpec)) orderPathsUptoCard

/-- THE SECOND FORM's CARD OF 'arbaclaw06.OrderPairs'. -/
def orderPairsUptoCard : Claim7 := { stood := { row := orderPairsUptoRow, standIns := [], harness := (true, "1cad26131d09812f608804162ef29a1cffdd90f5dabb7f814bbe2c8dd352b9ac"), looks := false }, kinds := [], alts := [], laidByText := true, laidKinds := [.data, .data, .data], laidTests := true, laidLooks := .later }
def OrderPairsUptoCardSaid : Prop := Claim7.holds Tryd.pinned (.plain (OpenSpec.upto orderPairsSpec)) orderPairsUptoCard

/-- THE SECOND FORM's CARD OF 'arbaclaw06.OrderEnds'. -/
def orderEndsUptoCard : Claim7 := { stood := { row := orderEndsUptoRow, standIns := [], harness := (true, "1cad26131d09812f608804162ef29a1cffdd90f5dabb7f814bbe2c8dd352b9ac"), looks := false }, kinds := [], alts := [], laidByText := true, laidKinds := [.data, .data, .data], laidTests := true, laidLooks := .later }
def OrderEndsUptoCardSaid : Prop := Claim7.holds Tryd.pinned (.plain (OpenSpec.upto orderEndsSpec)) orderEndsUptoCard

/-- THE SECOND FORM's CARD OF 'arbaclaw06.OrderCovers'. -/
def orderCoversUptoCard : Claim7 := { stood := { row := orderCoversUptoRow, standIns := [], harness := (true, "1cad26131d09812f608804162ef29a1cffdd90f5dabb7f814bbe2c8dd352b9ac"), looks := false }, kinds := [], alts := [], laidByText := true, laidKinds := [.data, .data, .data], laidTests := true, laidLooks := .later }
def OrderCoversUptoCardSaid : Prop := Claim7.holds Tryd.pinned (.plain (OpenSpec.upto orderCoversSpec)) orderCoversUptoCard

/-- THE SECOND FORM's CARD OF 'arbaclaw06.OrderMakes'. -/
def orderMakesUptoCard : Claim7 := { stood := { row := orderMakesUptoRow, standIns := [], harness := (true, "1cad26131d09812f608804162ef29a1cffdd90f5dabb7f814bbe2c8dd352b9ac"), looks := false }, kinds := [], alts := [], laidByText := true, laidKinds := [.data, .data, .data], laidTests := true, laidLooks := .later }
def OrderMakesUptoCardSaid : Prop := Claim7.holds Tryd.pinned (.plain (OpenSpec.upto orderMakesSpec)) orderMakesUptoCard

/-- THE SECOND FORM's CARD OF 'arbaclaw06.OrderAsks'. -/
def orderAsksUptoCard : Claim7 := { stood := { row := orderAsksUptoRow, standIns := [], harness := (true, "1cad26131d09812f608804162ef29a1cffdd90f5dabb7f814bbe2c8dd352b9ac"), looks := false }, kinds := [], alts := [], laidByText := true, laidKinds := [.data, .data, .data], laidTests := true, laidLooks := .later }
def OrderAsksUptoCardSaid : Prop := Claim7.holds Tryd.pinned (.plain (OpenSpec.upto orderAsksSpec)) orderAsksUptoCard

/-- THE SECOND FORM's CARD OF 'arbaclaw06.OrderReduces'. -/
def orderReducesUptoCard : Claim7 := { stood := { row := orderReducesUptoRow, standIns := [], harness := (true, "1cad26131d09812f608804162ef29a1cffdd90f5dabb7f814bbe2c8dd352b9ac"), looks := false }, kinds := [], alts := [], laidByText := true, laidKinds := [.data, .data, .data], laidTests := true, laidLooks := .later }
def OrderReducesUptoCardSaid : Prop := Claim7.holds Tryd.pinned (.plain (OpenSpec.upto orderReducesSpec)) orderReducesUptoCard

/-- THE SECOND FORM's CARD OF 'arbaclaw06.OrderChanges'. -/
def orderChangesUptoCard : Claim7 := { stood := { row := orderChangesUptoRow, standIns := [], harness := (true, "1cad26131d09812f608804162ef29a1cffdd90f5dabb7f814bbe2c8dd352b9ac"), looks := false }, kinds := [], alts := [], laidByText := true, laidKinds := [.data, .data, .data], laidTests := true, laidLooks := .later }
def OrderChangesUptoCardSaid : Prop := Claim7.holds Tryd.pinned (.plain (OpenSpec.upto orderChangesSpec)) orderChangesUptoCard

/-- THE SECOND FORM's CARD OF 'arbaclaw06.OrderNil'. -/
def orderNilUptoCard : Claim7 := { stood := { row := orderNilUptoRow, standIns := [], harness := (true, "1cad26131d09812f608804162ef29a1cffdd90f5dabb7f814bbe2c8dd352b9ac"), looks := false }, kinds := [], alts := [], laidByText := true, laidKinds := [.data, .data, .data], laidTests := true, laidLooks := .later }
def OrderNilUptoCardSaid : Prop := Claim7.holds Tryd.pinned (.plain (OpenSpec.upto orderNilSpec)) orderNilUptoCard
end Rows
end Go.Proofs.YtamkbeibmhkciaaDoor
