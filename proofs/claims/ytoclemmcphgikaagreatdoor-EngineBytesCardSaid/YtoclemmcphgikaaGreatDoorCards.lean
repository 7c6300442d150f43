/-
  DERIVED. GIVEN WITH THE SEED: THE CARDS: each row of YtoclemmcphgikaaGreatDoorRows.lean that lists a variable, with what it lists TIED to the program's text (the seventh form; the later family's looks); each row that meets fmt, with fmt's text TOLD by the authors' own Lean function (tested against real Go, not proved from fmt's source: count such statements apart). THE CARD IS WHAT COUNTS. Prove the row's statement (the work); the ties are given (YtoclemmcphgikaaGreatDoorTie.lean); close each card by the builder's one call (the guide's Derived/Test/ToyasCard.lean, 'card_holds'). Laid BY PROGRAM, IN A SANDBOX (cutbox-door.mjs). By AI agents, Wed Nov 11 2026. No macro, syntax, notation, axiom, sorry.
-/
import Derived.Test.YtoclemmcphgikaaGreatDoorRows
import GoSem.ClaimSeven
namespace Go.Proofs.YtoclemmcphgikaaGreatDoor
namespace Rows

/-- THE TIED CARD OF 'arbaclaw43.EngineAll'. -/
def engineAllCard : Claim7 := { stood := { row := engineAllRow, standIns := [], harness := (true, "5136f1d316712e271b6b54f0a70a60bfe760645fd3ad2498455f3b89f20c410c"), looks := false }, kinds := [], alts := [], laidByText := true, laidKinds := [.data], laidTests := true, laidLooks := .later }
def EngineAllCardSaid : Prop := Claim7.holds Tryz.pinned (.plain (OpenSpec.ofChange engineAllSpec)) engineAllCard

/-- THE TIED CARD OF 'arbaclaw43.EngineAsks'. -/
def engineAsksCard : Claim7 := { stood := { row := engineAsksRow, standIns := [], harness := (true, "5136f1d316712e271b6b54f0a70a60bfe760645fd3ad2498455f3b89f20c410c"), looks := false }, kinds := [], alts := [], laidByText := true, laidKinds := [.data], laidTests := true, laidLooks := .later }
def EngineAsksCardSaid : Prop := Claim7.holds Tryz.pinned (.plain (OpenSpec.ofChange engineAsksSpec)) engineAsksCard

/-- THE TIED CARD OF 'arbaclaw43.EngineStaffs'. -/
def engineStaffsCard : Claim7 := { stood := { row := engineStaffsRow, standIns := [], harness := (true, "5136f1d316712e271b6b54f0a70a60bfe760645fd3ad2498455f3b89f20c410c"), looks := false }, kinds := [], alts := [], laidByText := true, laidKinds := [.data], laidTests := true, laidLooks := .later }
def EngineStaffsCardSaid : Prop := Claim7.holds Tryz.pinned (.plain (OpenSpec.ofChange engineStaffsSpec)) engineStaffsCard

/-- THE TIED CARD OF 'arbaclaw43.EngineUsers'. -/
def engineUsersCard : Claim7 := { stood := { row := engineUsersRow, standIns := [], harness := (true, "5136f1d316712e271b6b54f0a70a60bfe760645fd3ad2498455f3b89f20c410c"), looks := false }, kinds := [], alts := [], laidByText := true, laidKinds := [.data], laidTests := true, laidLooks := .later }
def EngineUsersCardSaid : Prop := Claim7.holds Tryz.pinned (.plain (OpenSpec.ofChange engineUsersSpec)) engineUsersCard

/-- THE TIED CARD OF 'arbaclaw43.EngineEnds'. -/
def engineEndsCard : Claim7 := { stood := { row := engineEndsRow, standIns := [], harness := (true, "5136f1d316712e271b6b54f0a70a60bfe760645fd3ad2498455f3b89f20c410c"), looks := false }, kinds := [], alts := [], laidByText := true, laidKinds := [.data], laidTests := true, laidLooks := .later }
def EngineEndsCardSaid : Prop := Claim7.holds Tryz.pinned (.plain (OpenSpec.ofChange engineEndsSpec)) engineEndsCard

/-- THE TIED CARD OF 'arbaclaw43.EngineAdapts'. -/
def engineAdaptsCard : Claim7 := { stood := { row := engineAdaptsRow, standIns := [], harness := (true, "5136f1d316712e271b6b54f0a70a60bfe760645fd3ad2498455f3b89f20c410c"), looks := false }, kinds := [], alts := [], laidByText := true, laidKinds := [.data], laidTests := true, laidLooks := .later }
def EngineAdaptsCardSaid : Prop := Claim7.holds Tryz.pinned (.plain (OpenSpec.ofChange engineAdaptsSpec)) engineAdaptsCard

/-- THE TIED CARD OF 'arbaclaw43.EngineErrs'. -/
def engineErrsCard : Claim7 := { stood := { row := engineErrsRow, standIns := [], harness := (true, "5136f1d316712e271b6b54f0a70a60bfe760645fd3ad2498455f3b89f20c410c"), looks := false }, kinds := [], alts := [], laidByText := true, laidKinds := [.data], laidTests := true, laidLooks := .later }
def EngineErrsCardSaid : Prop := Claim7.holds Tryz.pinned (.plain (OpenSpec.ofChange engineErrsSpec)) engineErrsCard

/-- THE TIED CARD OF 'arbaclaw43.EngineReads'. -/
def engineReadsCard : Claim7 := { stood := { row := engineReadsRow, standIns := [], harness := (true, "5136f1d316712e271b6b54f0a70a60bfe760645fd3ad2498455f3b89f20c410c"), looks := false }, kinds := [], alts := [], laidByText := true, laidKinds := [.data], laidTests := true, laidLooks := .later }
def EngineReadsCardSaid : Prop := Claim7.holds Tryz.pinned (.plain (OpenSpec.ofChange engineReadsSpec)) engineReadsCard

/-- THE TIED CARD OF 'arbaclaw43.EngineBytes'. -/
def engineBytesCard : Claim7 := { stood := { row := engineBytesRow, standIns := [], harness := (true, "5136f1d316712e271b6b54f0a70a60bfe760645fd3ad2498455f3b89f20c410c"), looks := false }, kinds := [], alts := [], laidByText := true, laidKinds := [.data], laidTests := true, laidLooks := .later }
def EngineBytesCardSaid : Prop := Claim7.holds Tryz.pinned (.plain (OpenSpec.ofChange engineBytesSpec)) engineBytesCard

/-- THE SECOND FORM's CARD OF 'arbaclaw43.EngineAll'. -/
def engineAllUptoCard : Claim7 := { stood := { row := engineAllUptoRow, standIns := [], harness := (true, "5136f1d316712e271b6b54f0a70a60bfe760645fd3ad2498455f3b89f20c410c"), looks := false }, kinds := [], alts := [], laidByText := true, laidKinds := [.data], laidTests := true, laidLooks := .later }
def EngineAllUptoCardSaid : Prop := Claim7.holds Tryz.pinned (.plain (OpenSpec.upto engineAllSpec)) engineAllUptoCard

/-- THE SECOND FORM's CARD OF 'arbaclaw43.EngineAsks'. -/
def engineAsksUptoCard : Claim7 := { stood := { row := engineAsksUptoRow, standIns := [], harness := (true, "5136f1d316712e271b6b54f0a70a60bfe760645fd3ad2498455f3b89f20c410c"), looks := false }, kinds := [], alts := [], laidByText := true, laidKinds := [.data], laidTests := true, laidLooks := .later }
def EngineAsksUptoCardSaid : Prop := Claim7.holds Tryz.pinned (.plain (OpenSpec.upto engineAsksSpec)) engineAsksUptoCard

/-- THE SECOND FORM's CARD OF 'arbaclaw43.EngineStaffs'. -/
def engineStaffsUptoCard : Claim7 := { stood := { row := engineStaffsUptoRow, standIns := [], harness := (true, "5136f1d316712e271b6b54f0a70a60bfe760645fd3ad2498455f3b89f20c410c"), looks := false }, kinds := [], alts := [], laidByText := true, laidKinds := [.data], laidTests := true, laidLooks := .later }
def EngineStaffsUptoCardSaid : Prop := Claim7.holds Tryz.pinned (.plain (OpenSpec.upto engineStaffsSpec)) engineStaffsUptoCard

/-- THE SECOND FORM's CARD OF 'arbaclaw43.EngineUsers'. -/
def engineUsersUptoCard : Claim7 := { stood := { row := engineUsersUptoRow, standIns := [], harness := (true, "5136f1d316712e271b6b54f0a70a60bfe760645fd3ad2498455f3b89f20c410c"), looks := false }, kinds := [], alts := [], laidByText := true, laidKinds := [.data], laidTests := true, laidLooks := .later }
def EngineUsersUptoCardSaid : Prop := Claim7.holds Tryz.pinned (.plain (OpenSpec.upto engineUsersSpec)) engineUsersUptoCard

/-- THE SECOND FORM's CARD OF 'arbaclaw43.EngineEnds'. -/
def engineEndsUptoCard : Claim7 := { stood := { row := engineEndsUptoRow, standIns := [], harness := (true, "5136f1d316712e271b6b54f0a70a60bfe760645fd3ad2498455f3b89f20c410c"), looks := false }, kinds := [], alts := [], laidByText := true, laidKinds := [.data], laidTests := true, laidLooks := .later }
def EngineEndsUptoCardSaid : Prop := Claim7.holds Tryz.pinned (.plain (OpenSpec.upto engineEndsSpec)) engineEndsUptoCard

/-- THE SECOND FORM's CARD OF 'arbaclaw43.EngineAdapts'. -/
def engineAdaptsUptoCard : Claim7 := { stood := { row := engineAdaptsUptoRow, standIns := [], harness := (true, "5136f1d316712e271b6b54f0a70a60bfe760645fd3ad2498455f3b89f20c410c"), looks := false }, kinds := [], alts := [], laidByText := true, laidKinds := [.data], laidTests := true, laidLooks := .later }
def EngineAdaptsUptoCardSaid : Prop := Claim7.holds Tryz.pinned (.plain (OpenSpec.upto engineAdaptsSpec)) engineAdaptsUptoCard

/-- THE SECOND FORM's CARD OF 'arbaclaw43.EngineErrs'. -/
def engineErrsUptoCard : Claim7 := { stood := { row := engineErrsUptoRow, standIns := [], harness := (true, "5136f1d316712e271b6b54f0a70a60bfe760645fd3ad2498455f3b89f20c410c"), looks := false }, kinds := [], alts := [], laidByText := true, laidKinds := [.data], laidTests := true, laidLooks := .later }
def EngineErrsUptoCardSaid : Prop := Claim7.holds Tryz.pinned (.plain (OpenSpec.upto engineErrsSpec)) engineErrsUptoCard

/-- THE SECOND FORM's CARD OF 'arbaclaw43.EngineReads'. -/
def engineReadsUptoCard : Claim7 := { stood := { row := engineReadsUptoRow, standIns := [], harness := (true, "5136f1d316712e271b6b54f0a70a60bfe760645fd3ad2498455f3b89f20c410c"), looks := false }, kinds := [], alts := [], laidByText := true, laidKinds := [.data], laidTests := true, laidLooks := .later }
def EngineReadsUptoCardSaid : Prop := Claim7.holds Tryz.pinned (.plain (OpenSpec.upto engineReadsSpec)) engineReadsUptoCard

/-- THE SECOND FORM's CARD OF 'arbaclaw43.EngineBytes'. -/
def engineBytesUptoCard : Claim7 := { stood := { row := engineBytesUptoRow, standIns := [], harness := (true, "5136f1d316712e271b6b54f0a70a60bfe760645fd3ad2498455f3b89f20c410c"), looks := false }, kinds := [], alts := [], laidByText := true, laidKinds := [.data], laidTests := true, laidLooks := .later }
def EngineBytesUptoCardSaid : Prop := Claim7.holds Tryz.pinned (.plain (OpenSpec.upto engineBytesSpec)) engineBytesUptoCard
end Rows
end Go.Proofs.YtoclemmcphgikaaGreatDoor
