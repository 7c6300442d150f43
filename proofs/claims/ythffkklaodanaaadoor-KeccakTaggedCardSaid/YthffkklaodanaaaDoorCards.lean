/-
  DERIVED. GIVEN WITH THE SEED: THE CARDS: each row of YthffkklaodanaaaDoorRows.lean that lists a variable, with what it lists TIED to the program's text (the seventh form; the later family's looks); each row that meets fmt, with fmt's text TOLD by the authors' own Lean function (tested against real Go, not proved from fmt's source: count such statements apart). THE CARD IS WHAT COUNTS. Prove the row's statement (the work); the ties are given (YthffkklaodanaaaDoorTie.lean); close each card by the builder's one call (the guide's Derived/Test/ToyasCard.lean, 'card_holds'). Laid BY PROGRAM, IN A SANDBOX (cutbox-door.mjs). By AI agents, Wed Nov 11 2026. No macro, syntax, notation, axiom, sorry.
-/
import Derived.Test.YthffkklaodanaaaDoorRows
import GoSem.ClaimSeven
namespace Go.Proofs.YthffkklaodanaaaDoor
namespace Rows

/-- THE TIED CARD OF 'arbaclaw03.KeccakSums'. -/
def keccakSumsCard : Claim7 := { stood := { row := keccakSumsRow, standIns := [], harness := (true, "95e58607657dbd12f846c8675444508170290b4da01b0733eb03dcefb0b07f84"), looks := false }, kinds := [], alts := [], laidByText := true, laidKinds := [.data, .data], laidTests := true, laidLooks := .later }
def KeccakSumsCardSaid : Prop := Claim7.holds Tryd.pinned (.plain (OpenSpec.ofChange keccakSumsSpec)) keccakSumsCard

/-- THE TIED CARD OF 'arbaclaw03.KeccakOrders'. -/
def keccakOrdersCard : Claim7 := { stood := { row := keccakOrdersRow, standIns := [], harness := (true, "95e58607657dbd12f846c8675444508170290b4da01b0733eb03dcefb0b07f84"), looks := false }, kinds := [], alts := [], laidByText := true, laidKinds := [.data, .data], laidTests := true, laidLooks := .later }
def KeccakOrdersCardSaid : Prop := Claim7.holds Tryd.pinned (.plain (OpenSpec.ofChange keccakOrdersSpec)) keccakOrdersCard

/-- THE TIED CARD OF 'arbaclaw03.KeccakPieces'. -/
def keccakPiecesCard : Claim7 := { stood := { row := keccakPiecesRow, standIns := [], harness := (true, "95e58607657dbd12f846c8675444508170290b4da01b0733eb03dcefb0b07f84"), looks := false }, kinds := [], alts := [], laidByText := true, laidKinds := [.data, .data], laidTests := true, laidLooks := .later }
def KeccakPiecesCardSaid : Prop := Claim7.holds Tryd.pinned (.plain (OpenSpec.ofChange keccakPiecesSpec)) keccakPiecesCard

/-- THE TIED CARD OF 'arbaclaw03.KeccakCopies'. -/
def keccakCopiesCard : Claim7 := { stood := { row := keccakCopiesRow, standIns := [], harness := (true, "95e58607657dbd12f846c8675444508170290b4da01b0733eb03dcefb0b07f84"), looks := false }, kinds := [], alts := [], laidByText := true, laidKinds := [.data, .data], laidTests := true, laidLooks := .later }
def KeccakCopiesCardSaid : Prop := Claim7.holds Tryd.pinned (.plain (OpenSpec.ofChange keccakCopiesSpec)) keccakCopiesCard

/-- THE TIED CARD OF 'arbaclaw03.KeccakTexts'. -/
def keccakTextsCard : Claim7 := { stood := { row := keccakTextsRow, standIns := [], harness := (true, "95e58607657dbd12f846c8675444508170290b4da01b0733eb03dcefb0b07f84"), looks := false }, kinds := [], alts := [], laidByText := true, laidKinds := [.data, .data], laidTests := true, laidLooks := .later }
def KeccakTextsCardSaid : Prop := Claim7.holds Tryd.pinned (.plain (OpenSpec.ofChange keccakTextsSpec)) keccakTextsCard

/-- THE TIED CARD OF 'arbaclaw03.KeccakParses'. -/
def keccakParsesCard : Claim7 := { stood := { row := keccakParsesRow, standIns := [], harness := (true, "95e58607657dbd12f846c8675444508170290b4da01b0733eb03dcefb0b07f84"), looks := false }, kinds := [], alts := [], laidByText := true, laidKinds := [.data, .data], laidTests := true, laidLooks := .later }
def KeccakParsesCardSaid : Prop := Claim7.holds Tryd.pinned (.plain (OpenSpec.ofChange keccakParsesSpec)) keccakParsesCard

/-- THE TIED CARD OF 'arbaclaw03.KeccakResets'. -/
def keccakResetsCard : Claim7 := { stood := { row := keccakResetsRow, standIns := [], harness := (true, "95e58607657dbd12f846c8675444508170290b4da01b0733eb03dcefb0b07f84"), looks := false }, kinds := [], alts := [], laidByText := true, laidKinds := [.data, .data], laidTests := true, laidLooks := .later }
def KeccakResetsCardSaid : Prop := Claim7.holds Tryd.pinned (.plain (OpenSpec.ofChange keccakResetsSpec)) keccakResetsCard

/-- THE TIED CARD OF 'arbaclaw03.KeccakNil'. -/
def keccakNilCard : Claim7 := { stood := { row := keccakNilRow, standIns := [], harness := (true, "95e58607657dbd12f846c8675444508170290b4da01b0733eb03dcefb0b07f84"), looks := false }, kinds := [], alts := [], laidByText := true, laidKinds := [.data, .data], laidTests := true, laidLooks := .later }
def KeccakNilCardSaid : Prop := Claim7.holds Tryd.pinned (.plain (OpenSpec.ofChange keccakNilSpec)) keccakNilCard

/-- THE TIED CARD OF 'arbaclaw03.KeccakTagged'. -/
def keccakTaggedCard : Claim7 := { stood := { row := keccakTaggedRow, standIns := [], harness := (true, "95e58607657dbd12f846c8675444508170290b4da01b0733eb03dcefb0b07f84"), looks := false }, kinds := [], alts := [], laidByText := true, laidKinds := [.data, .data], laidTests := true, laidLooks := .later }
def KeccakTaggedCardSaid : Prop := Claim7.holds Tryd.pinned (.plain (OpenSpec.ofChange keccakTaggedSpec)) keccakTaggedCard

/-- THE TIED CARD OF 'arbaclaw03.KeccakParts'. -/
def keccakPartsCard : Claim7 := { stood := { row := keccakPartsRow, standIns := [], harness := (true, "95e58607657dbd12f846c8675444508170290b4da01b0733eb03dcefb0b07f84"), looks := false }, kinds := [], alts := [], laidByText := true, laidKinds := [.data, .data], laidTests := true, laidLooks := .later }
def KeccakPartsCardSaid : Prop := Claim7.holds Tryd.pinned (.plain (OpenSpec.ofChange keccakPartsSpec)) keccakPartsCard

/-- THE SECOND FORM's CARD OF 'arbaclaw03.KeccakSums'. -/
def keccakSumsUptoCard : Claim7 := { stood := { row := keccakSumsUptoRow, standIns := [], harness := (true, "95e58607657dbd12f846c8675444508170290b4da01b0733eb03dcefb0b07f84"), looks := false }, kinds := [], alts := [], laidByText := true, laidKinds := [.data, .data], laidTests := true, laidLooks := .later }
def KeccakSumsUptoCardSaid : Prop := Claim7.holds Tryd.pinned (.plain (OpenSpec.upto keccakSumsSpec)) keccakSumsUptoCard

/-- THE SECOND FORM's CARD OF 'arbaclaw03.KeccakOrders'. -/
def keccakOrdersUptoCard : Claim7 := { stood := { row := keccakOrdersUptoRow, standIns := [], harness := (true, "95e58607657dbd12f846c8675444508170290b4da01b0733eb03dcefb0b07f84"), looks := false }, kinds := [], alts := [], laidByText := true, laidKinds := [.data, .data], laidTests := true, laidLooks := .later }
def KeccakOrdersUptoCardSaid : Prop := Claim7.holds Tryd.pinned (.plain (OpenSpec.upto keccakOrdersSpec)) keccakOrdersUptoCard

/-- THE SECOND FORM's CARD OF 'arbaclaw03.KeccakPieces'. -/
def keccakPiecesUptoCard : Claim7 := { stood := { row := keccakPiecesUptoRow, standIns := [], harness := (true, "95e58607657dbd12f846c8675444508170290b4da01b0733eb03dcefb0b07f84"), looks := false }, kinds := [], alts := [], laidByText := true, laidKinds := [.data, .data], laidTests := true, laidLooks := .later }
def KeccakPiecesUptoCardSaid : Prop := Claim7.holds Tryd.pinned (.plain (OpenSpec.upto keccakPiecesSpec)) keccakPiecesUptoCard

/-- THE SECOND FORM's CARD OF 'arbaclaw03.KeccakCopies'. -/
def keccakCopiesUptoCard : Claim7 := { stood := { row := keccakCopiesUptoRow, standIns := [], harness := (true, "95e58607657dbd12f846c8675444508170290b4da01b0733eb03dcefb0b07f84"), looks := false }, kinds := [], alts := [], laidByText := true, laidKinds := [.data, .data], laidTests := true, laidLooks := .later }
def KeccakCopiesUptoCardSaid : Prop := Claim7.holds Tryd.pinned (.plain (OpenSpec.upto keccakCopiesSpec)) keccakCopiesUptoCard

/-- THE SECOND FORM's CARD OF 'arbaclaw03.KeccakTexts'. -/
def keccakTextsUptoCard : Claim7 := { stood := { row := keccakTextsUptoRow, standIns := [], harness := (true, "95e58607657dbd12f846c8675444508170290b4da01b0733eb03dcefb0b07f84"), looks := false }, kinds := [], alts := [], laidByText := true, laidKinds := [.data, .data], laidTests := true, laidLooks := .later }
def KeccakTextsUptoCardSaid : Prop := Claim7.holds Tryd.pinned (.plain (OpenSpec.upto keccakTextsSpec)) keccakTextsUptoCard

/-- THE SECOND FORM's CARD OF 'arbaclaw03.KeccakParses'. -/
def keccakParsesUptoCard : Claim7 := { stood := { row := keccakParsesUptoRow, standIns := [], harness := (true, "95e58607657dbd12f846c8675444508170290b4da01b0733eb03dcefb0b07f84"), looks := false }, kinds := [], alts := [], laidByText := true, laidKinds := [.data, .data], laidTests := true, laidLooks := .later }
def KeccakParsesUptoCardSaid : Prop := Claim7.holds Tryd.pinned (.plain (OpenSpec.upto keccakParsesSpec)) keccakParsesUptoCard

/-- THE SECOND FORM's CARD OF 'arbaclaw03.KeccakResets'. -/
def keccakResetsUptoCard : Claim7 := { stood := { row := keccakResetsUptoRow, standIns := [], harness := (true, "95e58607657dbd12f846c8675444508170290b4da01b0733eb03dcefb0b07f84"), looks := false }, kinds := [], alts := [], laidByText := true, laidKinds := [.data, .data], laidTests := true, laidLooks := .later }
def KeccakResetsUptoCardSaid : Prop := Claim7.holds Tryd.pinned (.plain (OpenSpec.upto keccakResetsSpec)) keccakResetsUptoCard

/-- THE SECOND FORM's CARD OF 'arbaclaw03.KeccakNil'. -/
def keccakNilUptoCard : Claim7 := { stood := { row := keccakNilUptoRow, standIns := [], harness := (true, "95e58607657dbd12f846c8675444508170290b4da01b0733eb03dcefb0b07f84"), looks := false }, kinds := [], alts := [], laidByText := true, laidKinds := [.data, .data], laidTests := true, laidLooks := .later }
def KeccakNilUptoCardSaid : Prop := Claim7.holds Tryd.pinned (.plain (OpenSpec.upto keccakNilSpec)) keccakNilUptoCard

/-- THE SECOND FORM's CARD OF 'arbaclaw03.KeccakTagged'. -/
def keccakTaggedUptoCard : Claim7 := { stood := { row := keccakTaggedUptoRow, standIns := [], harness := (true, "95e58607657dbd12f846c8675444508170290b4da01b0733eb03dcefb0b07f84"), looks := false }, kinds := [], alts := [], laidByText := true, laidKinds := [.data, .data], laidTests := true, laidLooks := .later }
def KeccakTaggedUptoCardSaid : Prop := Claim7.holds Tryd.pinned (.plain (OpenSpec.upto keccakTaggedSpec)) keccakTaggedUptoCard

/-- THE SECOND FORM's CARD OF 'arbaclaw03.KeccakParts'. -/
def keccakPartsUptoCard : Claim7 := { stood := { row := keccakPartsUptoRow, standIns := [], harness := (true, "95e58607657dbd12f846c8675444508170290b4da01b0733eb03dcefb0b07f84"), looks := false }, kinds := [], alts := [], laidByText := true, laidKinds := [.data, .data], laidTests := true, laidLooks := .later }
def KeccakPartsUptoCardSaid : Prop := Claim7.holds Tryd.pinned (.plain (OpenSpec.upto keccakPartsSpec)) keccakPartsUptoCard
end Rows
end Go.Proofs.YthffkklaodanaaaDoor
