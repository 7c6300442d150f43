/-
  DERIVED. GIVEN WITH THE SEED: THE CARDS: each row of YtihlnbepcimnfaaDoorRows.lean that lists a variable, with what it lists TIED to the program's text (the seventh form; the later family's looks); each row that meets fmt, with fmt's text TOLD by the authors' own Lean function (tested against real Go, not proved from fmt's source: count such statements apart). THE CARD IS WHAT COUNTS. Prove the row's statement (the work); the ties are given (YtihlnbepcimnfaaDoorTie.lean); close each card by the builder's one call (the guide's Derived/Test/ToyasCard.lean, 'card_holds'). Laid BY PROGRAM, IN A SANDBOX (cutbox-door.mjs). By AI agents, Wed Nov 11 2026. No macro, syntax, notation, axiom, sorry.
-/
import Derived.Test.YtihlnbepcimnfaaDoorRows
import GoSem.ClaimSeven
namespace Go.Proofs.YtihlnbepcimnfaaDoor
namespace Rows

/-- THE TIED CARD OF 'arbaclaw09.MatchingMaximum'. -/
def matchingMaximumCard : Claim7 := { stood := { row := matchingMaximumRow, standIns := [], harness := (true, "a99616e1f34cfefc72f5f8595cc112a81e00219ddfba0c6e5e4798826dda0e57"), looks := false }, kinds := [], alts := [], laidByText := true, laidKinds := [.data], laidTests := true, laidLooks := .later }
def MatchingMaximumCardSaid : Prop := Claim7.holds Tryd.pinned (.plain (OpenSpec.ofChange matchingMaximumSpec)) matchingMaximumCard

/-- THE TIED CARD OF 'arbaclaw09.MatchingDeficient'. -/
def matchingDeficientCard : Claim7 := { stood := { row := matchingDeficientRow, standIns := [], harness := (true, "a99616e1f34cfefc72f5f8595cc112a81e00219ddfba0c6e5e4798826dda0e57"), looks := false }, kinds := [], alts := [], laidByText := true, laidKinds := [.data], laidTests := true, laidLooks := .later }
def MatchingDeficientCardSaid : Prop := Claim7.holds Tryd.pinned (.plain (OpenSpec.ofChange matchingDeficientSpec)) matchingDeficientCard

/-- THE TIED CARD OF 'arbaclaw09.MatchingLeast'. -/
def matchingLeastCard : Claim7 := { stood := { row := matchingLeastRow, standIns := [], harness := (true, "a99616e1f34cfefc72f5f8595cc112a81e00219ddfba0c6e5e4798826dda0e57"), looks := false }, kinds := [], alts := [], laidByText := true, laidKinds := [.data], laidTests := true, laidLooks := .later }
def MatchingLeastCardSaid : Prop := Claim7.holds Tryd.pinned (.plain (OpenSpec.ofChange matchingLeastSpec)) matchingLeastCard

/-- THE TIED CARD OF 'arbaclaw09.MatchingGrows'. -/
def matchingGrowsCard : Claim7 := { stood := { row := matchingGrowsRow, standIns := [], harness := (true, "a99616e1f34cfefc72f5f8595cc112a81e00219ddfba0c6e5e4798826dda0e57"), looks := false }, kinds := [], alts := [], laidByText := true, laidKinds := [.data], laidTests := true, laidLooks := .later }
def MatchingGrowsCardSaid : Prop := Claim7.holds Tryd.pinned (.plain (OpenSpec.ofChange matchingGrowsSpec)) matchingGrowsCard

/-- THE TIED CARD OF 'arbaclaw09.MatchingChecks'. -/
def matchingChecksCard : Claim7 := { stood := { row := matchingChecksRow, standIns := [], harness := (true, "a99616e1f34cfefc72f5f8595cc112a81e00219ddfba0c6e5e4798826dda0e57"), looks := false }, kinds := [], alts := [], laidByText := true, laidKinds := [.data], laidTests := true, laidLooks := .later }
def MatchingChecksCardSaid : Prop := Claim7.holds Tryd.pinned (.plain (OpenSpec.ofChange matchingChecksSpec)) matchingChecksCard

/-- THE TIED CARD OF 'arbaclaw09.MatchingErrs'. -/
def matchingErrsCard : Claim7 := { stood := { row := matchingErrsRow, standIns := [], harness := (true, "a99616e1f34cfefc72f5f8595cc112a81e00219ddfba0c6e5e4798826dda0e57"), looks := false }, kinds := [], alts := [], laidByText := true, laidKinds := [.data], laidTests := true, laidLooks := .later }
def MatchingErrsCardSaid : Prop := Claim7.holds Tryd.pinned (.plain (OpenSpec.ofChange matchingErrsSpec)) matchingErrsCard

/-- THE TIED CARD OF 'arbaclaw09.MatchingCovers'. -/
def matchingCoversCard : Claim7 := { stood := { row := matchingCoversRow, standIns := [], harness := (true, "a99616e1f34cfefc72f5f8595cc112a81e00219ddfba0c6e5e4798826dda0e57"), looks := false }, kinds := [], alts := [], laidByText := true, laidKinds := [.data], laidTests := true, laidLooks := .later }
def MatchingCoversCardSaid : Prop := Claim7.holds Tryd.pinned (.plain (OpenSpec.ofChange matchingCoversSpec)) matchingCoversCard

/-- THE TIED CARD OF 'arbaclaw09.MatchingHall'. -/
def matchingHallCard : Claim7 := { stood := { row := matchingHallRow, standIns := [], harness := (true, "a99616e1f34cfefc72f5f8595cc112a81e00219ddfba0c6e5e4798826dda0e57"), looks := false }, kinds := [], alts := [], laidByText := true, laidKinds := [.data], laidTests := true, laidLooks := .later }
def MatchingHallCardSaid : Prop := Claim7.holds Tryd.pinned (.plain (OpenSpec.ofChange matchingHallSpec)) matchingHallCard

/-- THE TIED CARD OF 'arbaclaw09.MatchingChains'. -/
def matchingChainsCard : Claim7 := { stood := { row := matchingChainsRow, standIns := [], harness := (true, "a99616e1f34cfefc72f5f8595cc112a81e00219ddfba0c6e5e4798826dda0e57"), looks := false }, kinds := [], alts := [], laidByText := true, laidKinds := [.data], laidTests := true, laidLooks := .later }
def MatchingChainsCardSaid : Prop := Claim7.holds Tryd.pinned (.plain (OpenSpec.ofChange matchingChainsSpec)) matchingChainsCard

/-- THE SECOND FORM's CARD OF 'arbaclaw09.MatchingMaximum'. -/
def matchingMaximumUptoCard : Claim7 := { stood := { row := matchingMaximumUptoRow, standIns := [], harness := (true, "a99616e1f34cfefc72f5f8595cc112a81e00219ddfba0c6e5e4798826dda0e57"), looks := false }, kinds := [], alts := [], laidByText := true, laidKinds := [.data], laidTests := true, laidLooks := .later }
def MatchingMaximumUptoCardSaid : Prop := Claim7.holds Tryd.pinned (.plain (OpenSpec.upto matchingMaximumSpec)) matchingMaximumUptoCard

/-- THE SECOND FORM's CARD OF 'arbaclaw09.MatchingDeficient'. -/
def matchingDeficientUptoCard : Claim7 := { stood := { row := matchingDeficientUptoRow, standIns := [], harness := (true, "a99616e1f34cfefc72f5f8595cc112a81e00219ddfba0c6e5e4798826dda0e57"), looks := false }, kinds := [], alts := [], laidByText := true, laidKinds := [.data], laidTests := true, laidLooks := .later }
def MatchingDeficientUptoCardSaid : Prop := Claim7.holds Tryd.pinned (.plain (OpenSpec.upto matchingDeficientSpec)) matchingDeficientUptoCard

/-- THE SECOND FORM's CARD OF 'arbaclaw09.MatchingLeast'. -/
def matchingLeastUptoCard : Claim7 := { stood := { row := matchingLeastUptoRow, standIns := [], harness := (true, "a99616e1f34cfefc72f5f8595cc112a81e00219ddfba0c6e5e4798826dda0e57"), looks := false }, kinds := [], alts := [], laidByText := true, laidKinds := [.data], laidTests := true, laidLooks := .later }
def MatchingLeastUptoCardSaid : Prop := Claim7.holds Tryd.pinned (.plain (OpenSpec.upto matchingLeastSpec)) matchingLeastUptoCard

/-- THE SECOND FORM's CARD OF 'arbaclaw09.MatchingGrows'. -/
def matchingGrowsUptoCard : Claim7 := { stood := { row := matchingGrowsUptoRow, standIns := [], harness := (true, "a99616e1f34cfefc72f5f8595cc112a81e00219ddfba0c6e5e4798826dda0e57"), looks := false }, kinds := [], alts := [], laidByText := true, laidKinds := [.data], laidTests := true, laidLooks := .later }
def MatchingGrowsUptoCardSaid : Prop := Claim7.holds Tryd.pinned (.plain (OpenSpec.upto matchingGrowsSpec)) matchingGrowsUptoCard

/-- THE SECOND FORM's CARD OF 'arbaclaw09.MatchingChecks'. -/
def matchingChecksUptoCard : Claim7 := { stood := { row := matchingChecksUptoRow, standIns := [], harness := (true, "a99616e1f34cfefc72f5f8595cc112a81e00219ddfba0c6e5e4798826dda0e57"), looks := false }, kinds := [], alts := [], laidByText := true, laidKinds := [.data], laidTests := true, laidLooks := .later }
def MatchingChecksUptoCardSaid : Prop := Claim7.holds Tryd.pinned (.plain (OpenSpec.upto matchingChecksSpec)) matchingChecksUptoCard

/-- THE SECOND FORM's CARD OF 'arbaclaw09.MatchingErrs'. -/
def matchingErrsUptoCard : Claim7 := { stood := { row := matchingErrsUptoRow, standIns := [], harness := (true, "a99616e1f34cfefc72f5f8595cc112a81e00219ddfba0c6e5e4798826dda0e57"), looks := false }, kinds := [], alts := [], laidByText := true, laidKinds := [.data], laidTests := true, laidLooks := .later }
def MatchingErrsUptoCardSaid : Prop := Claim7.holds Tryd.pinned (.plain (OpenSpec.upto matchingErrsSpec)) matchingErrsUptoCard

/-- THE SECOND FORM's CARD OF 'arbaclaw09.MatchingCovers'. -/
def matchingCoversUptoCard : Claim7 := { stood := { row := matchingCoversUptoRow, standIns := [], harness := (true, "a99616e1f34cfefc72f5f8595cc112a81e00219ddfba0c6e5e4798826dda0e57"), looks := false }, kinds := [], alts := [], laidByText := true, laidKinds := [.data], laidTests := true, laidLooks := .later }
def MatchingCoversUptoCardSaid : Prop := Claim7.holds Tryd.pinned (.plain (OpenSpec.upto matchingCoversSpec)) matchingCoversUptoCard

/-- THE SECOND FORM's CARD OF 'arbaclaw09.MatchingHall'. -/
def matchingHallUptoCard : Claim7 := { stood := { row := matchingHallUptoRow, standIns := [], harness := (true, "a99616e1f34cfefc72f5f8595cc112a81e00219ddfba0c6e5e4798826dda0e57"), looks := false }, kinds := [], alts := [], laidByText := true, laidKinds := [.data], laidTests := true, laidLooks := .later }
def MatchingHallUptoCardSaid : Prop := Claim7.holds Tryd.pinned (.plain (OpenSpec.upto matchingHallSpec)) matchingHallUptoCard

/-- THE SECOND FORM's CARD OF 'arbaclaw09.MatchingChains'. -/
def matchingChainsUptoCard : Claim7 := { stood := { row := matchingChainsUptoRow, standIns := [], harness := (true, "a99616e1f34cfefc72f5f8595cc112a81e00219ddfba0c6e5e4798826dda0e57"), looks := false }, kinds := [], alts := [], laidByText := true, laidKinds := [.data], laidTests := true, laidLooks := .later }
def MatchingChainsUptoCardSaid : Prop := Claim7.holds Tryd.pinned (.plain (OpenSpec.upto matchingChainsSpec)) matchingChainsUptoCard
end Rows
end Go.Proofs.YtihlnbepcimnfaaDoor
