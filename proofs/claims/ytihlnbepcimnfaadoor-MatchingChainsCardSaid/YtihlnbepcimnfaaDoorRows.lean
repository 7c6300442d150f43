/-
  NARROWER THAN 'FOR EVERY INPUT', by the rows' own cells (each row's printed sentence says how): MatchingMaximum: laid · MatchingDeficient: laid · MatchingLeast: laid · MatchingGrows: laid · MatchingChecks: laid · MatchingErrs: laid · MatchingCovers: laid · MatchingHall: laid · MatchingChains: laid.
  DERIVED. THE GIVEN ROWS OF THIS SEAT. 9 by the template 'for every input the law returns true; each argument reads behind the call as it read before'; 0 by the template 'total and deterministic' (their statements: YtihlnbepcimnfaaDoorTotals.lean).
  GIVEN WITH THE SEED: the statements are not yours to turn. If you find one false, say at which input.
  Laid BY PROGRAM, IN A SANDBOX (cutbox-rows.mjs): the forced cells as the released guide's own fill.sh prints them over the translation 6bcfec001822f664… (all of the seat's roots in one cut). By AI agents, Wed Nov 11 2026. No macro, syntax, notation, axiom, sorry.
-/
import Derived.Test.YtihlnbepcimnfaaDoorChecked
import GoSem.Claim
import GoSem.ClaimJoined
import GoSem.ClaimMapViews
import Derived.JoinedTies
import Derived.KernelRfl
namespace Go.Proofs.YtihlnbepcimnfaaDoor
/- THE CELL 'sum', in the pinned program and in every row, IS THE sha256 OF THE DUMP (.gsa) THAT YtihlnbepcimnfaaDoorProg.lean LOADS. Nothing in Lean hashes anything: it is a label: what it is worth is what the hold of that sum in a sandbox is worth. -/
noncomputable def Tryd.pinned : Pinned := { name := "ytihlnbepcimnfaadoor", sum := "6bcfec001822f6645d78b138e67d16964cc3fd84d1248125266ee502aba52c29", checked := Tryd.checked }
namespace Rows
def none {H : Type} : Left H := { results := [], args := [] }

/- WHAT THE LISTED PACKAGE-LEVEL VARIABLES READ AS WHEN THE CALL BEGINS. Each datum BY PROGRAM (the guide's laid-datum.mjs) off the statement by which the dump's own 'gosem.cut.vars' lays the variable. In a bare row this is a premise. The card (YtihlnbepcimnfaaDoorCards.lean) ties it to the program's text. -/
def laid_math_bits_deBruijn64tab {H : Type} : DataW H := .agg [.lit (.int .u8 0), .lit (.int .u8 1), .lit (.int .u8 56), .lit (.int .u8 2), .lit (.int .u8 57), .lit (.int .u8 49), .lit (.int .u8 28), .lit (.int .u8 3), .lit (.int .u8 61), .lit (.int .u8 58), .lit (.int .u8 42), .lit (.int .u8 50), .lit (.int .u8 38), .lit (.int .u8 29), .lit (.int .u8 17), .lit (.int .u8 4), .lit (.int .u8 62), .lit (.int .u8 47), .lit (.int .u8 59), .lit (.int .u8 36), .lit (.int .u8 45), .lit (.int .u8 43), .lit (.int .u8 51), .lit (.int .u8 22), .lit (.int .u8 53), .lit (.int .u8 39), .lit (.int .u8 33), .lit (.int .u8 30), .lit (.int .u8 24), .lit (.int .u8 18), .lit (.int .u8 12), .lit (.int .u8 5), .lit (.int .u8 63), .lit (.int .u8 55), .lit (.int .u8 48), .lit (.int .u8 27), .lit (.int .u8 60), .lit (.int .u8 41), .lit (.int .u8 37), .lit (.int .u8 16), .lit (.int .u8 46), .lit (.int .u8 35), .lit (.int .u8 44), .lit (.int .u8 21), .lit (.int .u8 52), .lit (.int .u8 32), .lit (.int .u8 23), .lit (.int .u8 11), .lit (.int .u8 54), .lit (.int .u8 26), .lit (.int .u8 40), .lit (.int .u8 15), .lit (.int .u8 34), .lit (.int .u8 20), .lit (.int .u8 31), .lit (.int .u8 10), .lit (.int .u8 25), .lit (.int .u8 14), .lit (.int .u8 19), .lit (.int .u8 9), .lit (.int .u8 13), .lit (.int .u8 8), .lit (.int .u8 7), .lit (.int .u8 6)]

/-- 'arbaclaw09.MatchingMaximum': WHATEVER THE INPUT: true; the input reads as it did. -/
def matchingMaximumSpec : ChangeSpec := { name := "matchingMaximum", fn := fun _ => fun
  | [d] => { results := [.lit (.bool true)], args := [d] }
  | _ => none }
def matchingMaximumRow : OpenClaim := { program := "ytihlnbepcimnfaadoor", sum := "6bcfec001822f6645d78b138e67d16964cc3fd84d1248125266ee502aba52c29", func := "arbac/arbaclaw09.MatchingMaximum", spec := "matchingMaximum", unfollowed := true, recurses := true, named := ["math/bits.deBruijn64tab"], apart := false, laid := [("math/bits.deBruijn64tab", laid_math_bits_deBruijn64tab)] }
def MatchingMaximumSaid : Prop := matchingMaximumRow.holds Tryd.pinned (OpenSpec.ofChange matchingMaximumSpec)

/-- ITS FALSE NEIGHBOUR: 'it returns false'. Refute it at one input. -/
def matchingMaximumWrong : ChangeSpec := { name := "matchingMaximum", fn := fun _ => fun
  | [d] => { results := [.lit (.bool false)], args := [d] }
  | _ => none }
def MatchingMaximumWrongFalsely : Prop := matchingMaximumRow.holds Tryd.pinned (OpenSpec.ofChange matchingMaximumWrong)

/-- 'arbaclaw09.MatchingDeficient': WHATEVER THE INPUT: true; the input reads as it did. -/
def matchingDeficientSpec : ChangeSpec := { name := "matchingDeficient", fn := fun _ => fun
  | [d] => { results := [.lit (.bool true)], args := [d] }
  | _ => none }
def matchingDeficientRow : OpenClaim := { program := "ytihlnbepcimnfaadoor", sum := "6bcfec001822f6645d78b138e67d16964cc3fd84d1248125266ee502aba52c29", func := "arbac/arbaclaw09.MatchingDeficient", spec := "matchingDeficient", unfollowed := true, recurses := true, named := ["math/bits.deBruijn64tab"], apart := false, laid := [("math/bits.deBruijn64tab", laid_math_bits_deBruijn64tab)] }
def MatchingDeficientSaid : Prop := matchingDeficientRow.holds Tryd.pinned (OpenSpec.ofChange matchingDeficientSpec)

/-- ITS FALSE NEIGHBOUR: 'it returns false'. Refute it at one input. -/
def matchingDeficientWrong : ChangeSpec := { name := "matchingDeficient", fn := fun _ => fun
  | [d] => { results := [.lit (.bool false)], args := [d] }
  | _ => none }
def MatchingDeficientWrongFalsely : Prop := matchingDeficientRow.holds Tryd.pinned (OpenSpec.ofChange matchingDeficientWrong)

/-- 'arbaclaw09.MatchingLeast': WHATEVER THE INPUT: true; the input reads as it did. -/
def matchingLeastSpec : ChangeSpec := { name := "matchingLeast", fn := fun _ => fun
  | [d] => { results := [.lit (.bool true)], args := [d] }
  | _ => none }
def matchingLeastRow : OpenClaim := { program := "ytihlnbepcimnfaadoor", sum := "6bcfec001822f6645d78b138e67d16964cc3fd84d1248125266ee502aba52c29", func := "arbac/arbaclaw09.MatchingLeast", spec := "matchingLeast", unfollowed := true, recurses := true, named := ["math/bits.deBruijn64tab"], apart := false, laid := [("math/bits.deBruijn64tab", laid_math_bits_deBruijn64tab)] }
def MatchingLeastSaid : Prop := matchingLeastRow.holds Tryd.pinned (OpenSpec.ofChange matchingLeastSpec)

/-- ITS FALSE NEIGHBOUR: 'it returns false'. Refute it at one input. -/
def matchingLeastWrong : ChangeSpec := { name := "matchingLeast", fn := fun _ => fun
  | [d] => { results := [.lit (.bool false)], args := [d] }
  | _ => none }
def MatchingLeastWrongFalsely : Prop := matchingLeastRow.holds Tryd.pinned (OpenSpec.ofChange matchingLeastWrong)

/-- 'arbaclaw09.MatchingGrows': WHATEVER THE INPUT: true; the input reads as it did. -/
def matchingGrowsSpec : ChangeSpec := { name := "matchingGrows", fn := fun _ => fun
  | [d1, d2, d3] => { results := [.lit (.bool true)], args := [d1, d2, d3] }
  | _ => none }
def matchingGrowsRow : OpenClaim := { program := "ytihlnbepcimnfaadoor", sum := "6bcfec001822f6645d78b138e67d16964cc3fd84d1248125266ee502aba52c29", func := "arbac/arbaclaw09.MatchingGrows", spec := "matchingGrows", unfollowed := true, recurses := true, named := ["math/bits.deBruijn64tab"], apart := false, laid := [("math/bits.deBruijn64tab", laid_math_bits_deBruijn64tab)] }
def MatchingGrowsSaid : Prop := matchingGrowsRow.holds Tryd.pinned (OpenSpec.ofChange matchingGrowsSpec)

/-- ITS FALSE NEIGHBOUR: 'it returns false'. Refute it at one input. -/
def matchingGrowsWrong : ChangeSpec := { name := "matchingGrows", fn := fun _ => fun
  | [d1, d2, d3] => { results := [.lit (.bool false)], args := [d1, d2, d3] }
  | _ => none }
def MatchingGrowsWrongFalsely : Prop := matchingGrowsRow.holds Tryd.pinned (OpenSpec.ofChange matchingGrowsWrong)

/-- 'arbaclaw09.MatchingChecks': WHATEVER THE INPUT: true; the input reads as it did. -/
def matchingChecksSpec : ChangeSpec := { name := "matchingChecks", fn := fun _ => fun
  | [d1, d2] => { results := [.lit (.bool true)], args := [d1, d2] }
  | _ => none }
def matchingChecksRow : OpenClaim := { program := "ytihlnbepcimnfaadoor", sum := "6bcfec001822f6645d78b138e67d16964cc3fd84d1248125266ee502aba52c29", func := "arbac/arbaclaw09.MatchingChecks", spec := "matchingChecks", unfollowed := true, recurses := true, named := ["math/bits.deBruijn64tab"], apart := false, laid := [("math/bits.deBruijn64tab", laid_math_bits_deBruijn64tab)] }
def MatchingChecksSaid : Prop := matchingChecksRow.holds Tryd.pinned (OpenSpec.ofChange matchingChecksSpec)

/-- ITS FALSE NEIGHBOUR: 'it returns false'. Refute it at one input. -/
def matchingChecksWrong : ChangeSpec := { name := "matchingChecks", fn := fun _ => fun
  | [d1, d2] => { results := [.lit (.bool false)], args := [d1, d2] }
  | _ => none }
def MatchingChecksWrongFalsely : Prop := matchingChecksRow.holds Tryd.pinned (OpenSpec.ofChange matchingChecksWrong)

/-- 'arbaclaw09.MatchingErrs': WHATEVER THE INPUT: true; the input reads as it did. -/
def matchingErrsSpec : ChangeSpec := { name := "matchingErrs", fn := fun _ => fun
  | [d1, d2, d3] => { results := [.lit (.bool true)], args := [d1, d2, d3] }
  | _ => none }
def matchingErrsRow : OpenClaim := { program := "ytihlnbepcimnfaadoor", sum := "6bcfec001822f6645d78b138e67d16964cc3fd84d1248125266ee502aba52c29", func := "arbac/arbaclaw09.MatchingErrs", spec := "matchingErrs", unfollowed := true, recurses := true, named := ["math/bits.deBruijn64tab"], apart := false, laid := [("math/bits.deBruijn64tab", laid_math_bits_deBruijn64tab)] }
def MatchingErrsSaid : Prop := matchingErrsRow.holds Tryd.pinned (OpenSpec.ofChange matchingErrsSpec)

/-- ITS FALSE NEIGHBOUR: 'it returns false'. Refute it at one input. -/
def matchingErrsWrong : ChangeSpec := { name := "matchingErrs", fn := fun _ => fun
  | [d1, d2, d3] => { results := [.lit (.bool false)], args := [d1, d2, d3] }
  | _ => none }
def MatchingErrsWrongFalsely : Prop := matchingErrsRow.holds Tryd.pinned (OpenSpec.ofChange matchingErrsWrong)

/-- 'arbaclaw09.MatchingCovers': WHATEVER THE INPUT: true; the input reads as it did. -/
def matchingCoversSpec : ChangeSpec := { name := "matchingCovers", fn := fun _ => fun
  | [d] => { results := [.lit (.bool true)], args := [d] }
  | _ => none }
def matchingCoversRow : OpenClaim := { program := "ytihlnbepcimnfaadoor", sum := "6bcfec001822f6645d78b138e67d16964cc3fd84d1248125266ee502aba52c29", func := "arbac/arbaclaw09.MatchingCovers", spec := "matchingCovers", unfollowed := true, recurses := true, named := ["math/bits.deBruijn64tab"], apart := false, laid := [("math/bits.deBruijn64tab", laid_math_bits_deBruijn64tab)] }
def MatchingCoversSaid : Prop := matchingCoversRow.holds Tryd.pinned (OpenSpec.ofChange matchingCoversSpec)

/-- ITS FALSE NEIGHBOUR: 'it returns false'. Refute it at one input. -/
def matchingCoversWrong : ChangeSpec := { name := "matchingCovers", fn := fun _ => fun
  | [d] => { results := [.lit (.bool false)], args := [d] }
  | _ => none }
def MatchingCoversWrongFalsely : Prop := matchingCoversRow.holds Tryd.pinned (OpenSpec.ofChange matchingCoversWrong)

/-- 'arbaclaw09.MatchingHall': WHATEVER THE INPUT: true; the input reads as it did. -/
def matchingHallSpec : ChangeSpec := { name := "matchingHall", fn := fun _ => fun
  | [d] => { results := [.lit (.bool true)], args := [d] }
  | _ => none }
def matchingHallRow : OpenClaim := { program := "ytihlnbepcimnfaadoor", sum := "6bcfec001822f6645d78b138e67d16964cc3fd84d1248125266ee502aba52c29", func := "arbac/arbaclaw09.MatchingHall", spec := "matchingHall", unfollowed := true, recurses := true, named := ["math/bits.deBruijn64tab"], apart := false, laid := [("math/bits.deBruijn64tab", laid_math_bits_deBruijn64tab)] }
def MatchingHallSaid : Prop := matchingHallRow.holds Tryd.pinned (OpenSpec.ofChange matchingHallSpec)

/-- ITS FALSE NEIGHBOUR: 'it returns false'. Refute it at one input. -/
def matchingHallWrong : ChangeSpec := { name := "matchingHall", fn := fun _ => fun
  | [d] => { results := [.lit (.bool false)], args := [d] }
  | _ => none }
def MatchingHallWrongFalsely : Prop := matchingHallRow.holds Tryd.pinned (OpenSpec.ofChange matchingHallWrong)

/-- 'arbaclaw09.MatchingChains': WHATEVER THE INPUT: true; the input reads as it did. -/
def matchingChainsSpec : ChangeSpec := { name := "matchingChains", fn := fun _ => fun
  | [d1, d2] => { results := [.lit (.bool true)], args := [d1, d2] }
  | _ => none }
def matchingChainsRow : OpenClaim := { program := "ytihlnbepcimnfaadoor", sum := "6bcfec001822f6645d78b138e67d16964cc3fd84d1248125266ee502aba52c29", func := "arbac/arbaclaw09.MatchingChains", spec := "matchingChains", unfollowed := true, recurses := true, named := ["math/bits.deBruijn64tab"], apart := false, laid := [("math/bits.deBruijn64tab", laid_math_bits_deBruijn64tab)] }
def MatchingChainsSaid : Prop := matchingChainsRow.holds Tryd.pinned (OpenSpec.ofChange matchingChainsSpec)

/-- ITS FALSE NEIGHBOUR: 'it returns false'. Refute it at one input. -/
def matchingChainsWrong : ChangeSpec := { name := "matchingChains", fn := fun _ => fun
  | [d1, d2] => { results := [.lit (.bool false)], args := [d1, d2] }
  | _ => none }
def MatchingChainsWrongFalsely : Prop := matchingChainsRow.holds Tryd.pinned (OpenSpec.ofChange matchingChainsWrong)

/- THE SECOND FORM. 'bulk': how many values and letters a reading holds, each counted each time it is reached (what is shared counts as often as it is met; a slice's spare places count too). A statement '..UptoSaid' is the law's where the arguments, and the package variables that the reading takes, are together of bulk at most 1048576: NARROWER than '..Said'. Prove '..Said' where nothing that the law and all that it calls make is longer than what came in: it says more and counts as full. Else prove '..UptoSaid'. A law counts once. -/
mutual
def uptoBulk {H : Type} : DataW H → Nat
  | .lit (.string bytes) => bytes.length + 1
  | .lit _ => 1
  | .nil => 1
  | .ptr d => uptoBulk d + 1
  | .slice elems spare => uptoBulkAll elems + uptoBulkAll spare + 1
  | .agg parts => uptoBulkAll parts + 1
  | .iface _ d => uptoBulk d + 1
  | .map entries => uptoBulkEntries entries + 1
  | .held _ => 1
def uptoBulkAll {H : Type} : List (DataW H) → Nat
  | [] => 0
  | d :: r => uptoBulk d + uptoBulkAll r
def uptoBulkEntries {H : Type} : List (Lit × DataW H) → Nat
  | [] => 0
  | x :: r => uptoBulkEntry x + uptoBulkEntries r
def uptoBulkEntry {H : Type} : Lit × DataW H → Nat
  | (.string bytes, d) => bytes.length + uptoBulk d + 1
  | (_, d) => uptoBulk d + 1
 end
def uptoSmall : (H : Type) → List (DataW H) → Bool := fun _ ds => decide (uptoBulkAll ds ≤ 1048576)
def OpenSpec.upto (s : _root_.Go.ChangeSpec) : _root_.Go.OpenSpec := { _root_.Go.OpenSpec.ofChange s with cond := some uptoSmall }

/-- 'arbaclaw09.MatchingMaximum', WHERE WHAT IT READS IS OF BULK AT MOST 1048576: true; the input reads as it did. -/
def matchingMaximumUptoRow : OpenClaim := { program := "ytihlnbepcimnfaadoor", sum := "6bcfec001822f6645d78b138e67d16964cc3fd84d1248125266ee502aba52c29", func := "arbac/arbaclaw09.MatchingMaximum", spec := "matchingMaximum", unfollowed := true, recurses := true, named := ["math/bits.deBruijn64tab"], apart := false, laid := [("math/bits.deBruijn64tab", laid_math_bits_deBruijn64tab)], narrowed := true }
def MatchingMaximumUptoSaid : Prop := matchingMaximumUptoRow.holds Tryd.pinned (OpenSpec.upto matchingMaximumSpec)

/-- 'arbaclaw09.MatchingDeficient', WHERE WHAT IT READS IS OF BULK AT MOST 1048576: true; the input reads as it did. -/
def matchingDeficientUptoRow : OpenClaim := { program := "ytihlnbepcimnfaadoor", sum := "6bcfec001822f6645d78b138e67d16964cc3fd84d1248125266ee502aba52c29", func := "arbac/arbaclaw09.MatchingDeficient", spec := "matchingDeficient", unfollowed := true, recurses := true, named := ["math/bits.deBruijn64tab"], apart := false, laid := [("math/bits.deBruijn64tab", laid_math_bits_deBruijn64tab)], narrowed := true }
def MatchingDeficientUptoSaid : Prop := matchingDeficientUptoRow.holds Tryd.pinned (OpenSpec.upto matchingDeficientSpec)

/-- 'arbaclaw09.MatchingLeast', WHERE WHAT IT READS IS OF BULK AT MOST 1048576: true; the input reads as it did. -/
def matchingLeastUptoRow : OpenClaim := { program := "ytihlnbepcimnfaadoor", sum := "6bcfec001822f6645d78b138e67d16964cc3fd84d1248125266ee502aba52c29", func := "arbac/arbaclaw09.MatchingLeast", spec := "matchingLeast", unfollowed := true, recurses := true, named := ["math/bits.deBruijn64tab"], apart := false, laid := [("math/bits.deBruijn64tab", laid_math_bits_deBruijn64tab)], narrowed := true }
def MatchingLeastUptoSaid : Prop := matchingLeastUptoRow.holds Tryd.pinned (OpenSpec.upto matchingLeastSpec)

/-- 'arbaclaw09.MatchingGrows', WHERE WHAT IT READS IS OF BULK AT MOST 1048576: true; the input reads as it did. -/
def matchingGrowsUptoRow : OpenClaim := { program := "ytihlnbepcimnfaadoor", sum := "6bcfec001822f6645d78b138e67d16964cc3fd84d1248125266ee502aba52c29", func := "arbac/arbaclaw09.MatchingGrows", spec := "matchingGrows", unfollowed := true, recurses := true, named := ["math/bits.deBruijn64tab"], apart := false, laid := [("math/bits.deBruijn64tab", laid_math_bits_deBruijn64tab)], narrowed := true }
def MatchingGrowsUptoSaid : Prop := matchingGrowsUptoRow.holds Tryd.pinned (OpenSpec.upto matchingGrowsSpec)

/-- 'arbaclaw09.MatchingChecks', WHERE WHAT IT READS IS OF BULK AT MOST 1048576: true; the input reads as it did. -/
def matchingChecksUptoRow : OpenClaim := { program := "ytihlnbepcimnfaadoor", sum := "6bcfec001822f6645d78b138e67d16964cc3fd84d1248125266ee502aba52c29", func := "arbac/arbaclaw09.MatchingChecks", spec := "matchingChecks", unfollowed := true, recurses := true, named := ["math/bits.deBruijn64tab"], apart := false, laid := [("math/bits.deBruijn64tab", laid_math_bits_deBruijn64tab)], narrowed := true }
def MatchingChecksUptoSaid : Prop := matchingChecksUptoRow.holds Tryd.pinned (OpenSpec.upto matchingChecksSpec)

/-- 'arbaclaw09.MatchingErrs', WHERE WHAT IT READS IS OF BULK AT MOST 1048576: true; the input reads as it did. -/
def matchingErrsUptoRow : OpenClaim := { program := "ytihlnbepcimnfaadoor", sum := "6bcfec001822f6645d78b138e67d16964cc3fd84d1248125266ee502aba52c29", func := "arbac/arbaclaw09.MatchingErrs", spec := "matchingErrs", unfollowed := true, recurses := true, named := ["math/bits.deBruijn64tab"], apart := false, laid := [("math/bits.deBruijn64tab", laid_math_bits_deBruijn64tab)], narrowed := true }
def MatchingErrsUptoSaid : Prop := matchingErrsUptoRow.holds Tryd.pinned (OpenSpec.upto matchingErrsSpec)

/-- 'arbaclaw09.MatchingCovers', WHERE WHAT IT READS IS OF BULK AT MOST 1048576: true; the input reads as it did. -/
def matchingCoversUptoRow : OpenClaim := { program := "ytihlnbepcimnfaadoor", sum := "6bcfec001822f6645d78b138e67d16964cc3fd84d1248125266ee502aba52c29", func := "arbac/arbaclaw09.MatchingCovers", spec := "matchingCovers", unfollowed := true, recurses := true, named := ["math/bits.deBruijn64tab"], apart := false, laid := [("math/bits.deBruijn64tab", laid_math_bits_deBruijn64tab)], narrowed := true }
def MatchingCoversUptoSaid : Prop := matchingCoversUptoRow.holds Tryd.pinned (OpenSpec.upto matchingCoversSpec)

/-- 'arbaclaw09.MatchingHall', WHERE WHAT IT READS IS OF BULK AT MOST 1048576: true; the input reads as it did. -/
def matchingHallUptoRow : OpenClaim := { program := "ytihlnbepcimnfaadoor", sum := "6bcfec001822f6645d78b138e67d16964cc3fd84d1248125266ee502aba52c29", func := "arbac/arbaclaw09.MatchingHall", spec := "matchingHall", unfollowed := true, recurses := true, named := ["math/bits.deBruijn64tab"], apart := false, laid := [("math/bits.deBruijn64tab", laid_math_bits_deBruijn64tab)], narrowed := true }
def MatchingHallUptoSaid : Prop := matchingHallUptoRow.holds Tryd.pinned (OpenSpec.upto matchingHallSpec)

/-- 'arbaclaw09.MatchingChains', WHERE WHAT IT READS IS OF BULK AT MOST 1048576: true; the input reads as it did. -/
def matchingChainsUptoRow : OpenClaim := { program := "ytihlnbepcimnfaadoor", sum := "6bcfec001822f6645d78b138e67d16964cc3fd84d1248125266ee502aba52c29", func := "arbac/arbaclaw09.MatchingChains", spec := "matchingChains", unfollowed := true, recurses := true, named := ["math/bits.deBruijn64tab"], apart := false, laid := [("math/bits.deBruijn64tab", laid_math_bits_deBruijn64tab)], narrowed := true }
def MatchingChainsUptoSaid : Prop := matchingChainsUptoRow.holds Tryd.pinned (OpenSpec.upto matchingChainsSpec)

end Rows
end Go.Proofs.YtihlnbepcimnfaaDoor
