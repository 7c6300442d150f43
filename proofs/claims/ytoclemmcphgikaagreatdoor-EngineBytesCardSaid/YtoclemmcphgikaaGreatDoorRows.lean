/-
  NARROWER THAN 'FOR EVERY INPUT', by the rows' own cells (each row's printed sentence says how): EngineAll: laid · EngineAsks: laid · EngineStaffs: laid · EngineUsers: laid · EngineEnds: laid · EngineAdapts: laid · EngineErrs: laid · EngineReads: laid · EngineBytes: laid.
  DERIVED. THE GIVEN ROWS OF THIS SEAT. 9 by the template 'for every input the law returns true; each argument reads behind the call as it read before'; 0 by the template 'total and deterministic' (their statements: YtoclemmcphgikaaGreatDoorTotals.lean).
  GIVEN WITH THE SEED: the statements are not yours to turn. If you find one false, say at which input.
  Laid BY PROGRAM, IN A SANDBOX (cutbox-rows.mjs): the forced cells as the released guide's own fill.sh prints them over the translation a41048a9db2804a0… (all of the seat's roots in one cut). By AI agents, Wed Nov 11 2026. No macro, syntax, notation, axiom, sorry.
-/
import Derived.Test.YtoclemmcphgikaaGreatDoorChecked
import GoSem.Claim
import GoSem.ClaimJoined
import GoSem.ClaimMapViews
import Derived.JoinedTies
import Derived.KernelRfl
namespace Go.Proofs.YtoclemmcphgikaaGreatDoor
/- THE CELL 'sum', in the pinned program and in every row, IS THE sha256 OF THE DUMP (.gsa) THAT YtoclemmcphgikaaGreatDoorProg.lean LOADS. Nothing in Lean hashes anything: it is a label: what it is worth is what the hold of that sum in a sandbox is worth. -/
noncomputable def Tryz.pinned : Pinned := { name := "ytoclemmcphgikaagreatdoor", sum := "a41048a9db2804a0cbd94fa76fddaba852137f4f9490c2fcb1c9f2314d68d130", checked := Tryz.checked }
namespace Rows
def none {H : Type} : Left H := { results := [], args := [] }

/- WHAT THE LISTED PACKAGE-LEVEL VARIABLES READ AS WHEN THE CALL BEGINS. Each datum BY PROGRAM (the guide's laid-datum.mjs) off the statement by which the dump's own 'gosem.cut.vars' lays the variable. In a bare row this is a premise. The card (YtoclemmcphgikaaGreatDoorCards.lean) ties it to the program's text. -/
def laid_math_bits_deBruijn64tab {H : Type} : DataW H := .agg [.lit (.int .u8 0), .lit (.int .u8 1), .lit (.int .u8 56), .lit (.int .u8 2), .lit (.int .u8 57), .lit (.int .u8 49), .lit (.int .u8 28), .lit (.int .u8 3), .lit (.int .u8 61), .lit (.int .u8 58), .lit (.int .u8 42), .lit (.int .u8 50), .lit (.int .u8 38), .lit (.int .u8 29), .lit (.int .u8 17), .lit (.int .u8 4), .lit (.int .u8 62), .lit (.int .u8 47), .lit (.int .u8 59), .lit (.int .u8 36), .lit (.int .u8 45), .lit (.int .u8 43), .lit (.int .u8 51), .lit (.int .u8 22), .lit (.int .u8 53), .lit (.int .u8 39), .lit (.int .u8 33), .lit (.int .u8 30), .lit (.int .u8 24), .lit (.int .u8 18), .lit (.int .u8 12), .lit (.int .u8 5), .lit (.int .u8 63), .lit (.int .u8 55), .lit (.int .u8 48), .lit (.int .u8 27), .lit (.int .u8 60), .lit (.int .u8 41), .lit (.int .u8 37), .lit (.int .u8 16), .lit (.int .u8 46), .lit (.int .u8 35), .lit (.int .u8 44), .lit (.int .u8 21), .lit (.int .u8 52), .lit (.int .u8 32), .lit (.int .u8 23), .lit (.int .u8 11), .lit (.int .u8 54), .lit (.int .u8 26), .lit (.int .u8 40), .lit (.int .u8 15), .lit (.int .u8 34), .lit (.int .u8 20), .lit (.int .u8 31), .lit (.int .u8 10), .lit (.int .u8 25), .lit (.int .u8 14), .lit (.int .u8 19), .lit (.int .u8 9), .lit (.int .u8 13), .lit (.int .u8 8), .lit (.int .u8 7), .lit (.int .u8 6)]

/-- 'arbaclaw43.EngineAll': WHATEVER THE INPUT: true; the input reads as it did. -/
def engineAllSpec : ChangeSpec := { name := "engineAll", fn := fun _ => fun
  | [d1, d2, d3] => { results := [.lit (.bool true)], args := [d1, d2, d3] }
  | _ => none }
def engineAllRow : OpenClaim := { program := "ytoclemmcphgikaagreatdoor", sum := "a41048a9db2804a0cbd94fa76fddaba852137f4f9490c2fcb1c9f2314d68d130", func := "arbac/arbaclaw43.EngineAll", spec := "engineAll", unfollowed := true, recurses := true, named := ["math/bits.deBruijn64tab"], apart := false, laid := [("math/bits.deBruijn64tab", laid_math_bits_deBruijn64tab)] }
def EngineAllSaid : Prop := engineAllRow.holds Tryz.pinned (OpenSpec.ofChange engineAllSpec)

/-- ITS FALSE NEIGHBOUR: 'it returns false'. Refute it at one input. -/
def engineAllWrong : ChangeSpec := { name := "engineAll", fn := fun _ => fun
  | [d1, d2, d3] => { results := [.lit (.bool false)], args := [d1, d2, d3] }
  | _ => none }
def EngineAllWrongFalsely : Prop := engineAllRow.holds Tryz.pinned (OpenSpec.ofChange engineAllWrong)

/-- 'arbaclaw43.EngineAsks': WHATEVER THE INPUT: true; the input reads as it did. -/
def engineAsksSpec : ChangeSpec := { name := "engineAsks", fn := fun _ => fun
  | [d1, d2] => { results := [.lit (.bool true)], args := [d1, d2] }
  | _ => none }
def engineAsksRow : OpenClaim := { program := "ytoclemmcphgikaagreatdoor", sum := "a41048a9db2804a0cbd94fa76fddaba852137f4f9490c2fcb1c9f2314d68d130", func := "arbac/arbaclaw43.EngineAsks", spec := "engineAsks", unfollowed := true, recurses := true, named := ["math/bits.deBruijn64tab"], apart := false, laid := [("math/bits.deBruijn64tab", laid_math_bits_deBruijn64tab)] }
def EngineAsksSaid : Prop := engineAsksRow.holds Tryz.pinned (OpenSpec.ofChange engineAsksSpec)

/-- ITS FALSE NEIGHBOUR: 'it returns false'. Refute it at one input. -/
def engineAsksWrong : ChangeSpec := { name := "engineAsks", fn := fun _ => fun
  | [d1, d2] => { results := [.lit (.bool false)], args := [d1, d2] }
  | _ => none }
def EngineAsksWrongFalsely : Prop := engineAsksRow.holds Tryz.pinned (OpenSpec.ofChange engineAsksWrong)

/-- 'arbaclaw43.EngineStaffs': WHATEVER THE INPUT: true; the input reads as it did. -/
def engineStaffsSpec : ChangeSpec := { name := "engineStaffs", fn := fun _ => fun
  | [d1, d2] => { results := [.lit (.bool true)], args := [d1, d2] }
  | _ => none }
def engineStaffsRow : OpenClaim := { program := "ytoclemmcphgikaagreatdoor", sum := "a41048a9db2804a0cbd94fa76fddaba852137f4f9490c2fcb1c9f2314d68d130", func := "arbac/arbaclaw43.EngineStaffs", spec := "engineStaffs", unfollowed := true, recurses := true, named := ["math/bits.deBruijn64tab"], apart := false, laid := [("math/bits.deBruijn64tab", laid_math_bits_deBruijn64tab)] }
def EngineStaffsSaid : Prop := engineStaffsRow.holds Tryz.pinned (OpenSpec.ofChange engineStaffsSpec)

/-- ITS FALSE NEIGHBOUR: 'it returns false'. Refute it at one input. -/
def engineStaffsWrong : ChangeSpec := { name := "engineStaffs", fn := fun _ => fun
  | [d1, d2] => { results := [.lit (.bool false)], args := [d1, d2] }
  | _ => none }
def EngineStaffsWrongFalsely : Prop := engineStaffsRow.holds Tryz.pinned (OpenSpec.ofChange engineStaffsWrong)

/-- 'arbaclaw43.EngineUsers': WHATEVER THE INPUT: true; the input reads as it did. -/
def engineUsersSpec : ChangeSpec := { name := "engineUsers", fn := fun _ => fun
  | [d1, d2] => { results := [.lit (.bool true)], args := [d1, d2] }
  | _ => none }
def engineUsersRow : OpenClaim := { program := "ytoclemmcphgikaagreatdoor", sum := "a41048a9db2804a0cbd94fa76fddaba852137f4f9490c2fcb1c9f2314d68d130", func := "arbac/arbaclaw43.EngineUsers", spec := "engineUsers", unfollowed := true, recurses := true, named := ["math/bits.deBruijn64tab"], apart := false, laid := [("math/bits.deBruijn64tab", laid_math_bits_deBruijn64tab)] }
def EngineUsersSaid : Prop := engineUsersRow.holds Tryz.pinned (OpenSpec.ofChange engineUsersSpec)

/-- ITS FALSE NEIGHBOUR: 'it returns false'. Refute it at one input. -/
def engineUsersWrong : ChangeSpec := { name := "engineUsers", fn := fun _ => fun
  | [d1, d2] => { results := [.lit (.bool false)], args := [d1, d2] }
  | _ => none }
def EngineUsersWrongFalsely : Prop := engineUsersRow.holds Tryz.pinned (OpenSpec.ofChange engineUsersWrong)

/-- 'arbaclaw43.EngineEnds': WHATEVER THE INPUT: true; the input reads as it did. -/
def engineEndsSpec : ChangeSpec := { name := "engineEnds", fn := fun _ => fun
  | [d1, d2, d3] => { results := [.lit (.bool true)], args := [d1, d2, d3] }
  | _ => none }
def engineEndsRow : OpenClaim := { program := "ytoclemmcphgikaagreatdoor", sum := "a41048a9db2804a0cbd94fa76fddaba852137f4f9490c2fcb1c9f2314d68d130", func := "arbac/arbaclaw43.EngineEnds", spec := "engineEnds", unfollowed := true, recurses := true, named := ["math/bits.deBruijn64tab"], apart := false, laid := [("math/bits.deBruijn64tab", laid_math_bits_deBruijn64tab)] }
def EngineEndsSaid : Prop := engineEndsRow.holds Tryz.pinned (OpenSpec.ofChange engineEndsSpec)

/-- ITS FALSE NEIGHBOUR: 'it returns false'. Refute it at one input. -/
def engineEndsWrong : ChangeSpec := { name := "engineEnds", fn := fun _ => fun
  | [d1, d2, d3] => { results := [.lit (.bool false)], args := [d1, d2, d3] }
  | _ => none }
def EngineEndsWrongFalsely : Prop := engineEndsRow.holds Tryz.pinned (OpenSpec.ofChange engineEndsWrong)

/-- 'arbaclaw43.EngineAdapts': WHATEVER THE INPUT: true; the input reads as it did. -/
def engineAdaptsSpec : ChangeSpec := { name := "engineAdapts", fn := fun _ => fun
  | [d1, d2, d3] => { results := [.lit (.bool true)], args := [d1, d2, d3] }
  | _ => none }
def engineAdaptsRow : OpenClaim := { program := "ytoclemmcphgikaagreatdoor", sum := "a41048a9db2804a0cbd94fa76fddaba852137f4f9490c2fcb1c9f2314d68d130", func := "arbac/arbaclaw43.EngineAdapts", spec := "engineAdapts", unfollowed := true, recurses := true, named := ["math/bits.deBruijn64tab"], apart := false, laid := [("math/bits.deBruijn64tab", laid_math_bits_deBruijn64tab)] }
def EngineAdaptsSaid : Prop := engineAdaptsRow.holds Tryz.pinned (OpenSpec.ofChange engineAdaptsSpec)

/-- ITS FALSE NEIGHBOUR: 'it returns false'. Refute it at one input. -/
def engineAdaptsWrong : ChangeSpec := { name := "engineAdapts", fn := fun _ => fun
  | [d1, d2, d3] => { results := [.lit (.bool false)], args := [d1, d2, d3] }
  | _ => none }
def EngineAdaptsWrongFalsely : Prop := engineAdaptsRow.holds Tryz.pinned (OpenSpec.ofChange engineAdaptsWrong)

/-- 'arbaclaw43.EngineErrs': WHATEVER THE INPUT: true; the input reads as it did. -/
def engineErrsSpec : ChangeSpec := { name := "engineErrs", fn := fun _ => fun
  | [d1, d2] => { results := [.lit (.bool true)], args := [d1, d2] }
  | _ => none }
def engineErrsRow : OpenClaim := { program := "ytoclemmcphgikaagreatdoor", sum := "a41048a9db2804a0cbd94fa76fddaba852137f4f9490c2fcb1c9f2314d68d130", func := "arbac/arbaclaw43.EngineErrs", spec := "engineErrs", unfollowed := true, recurses := true, named := ["math/bits.deBruijn64tab"], apart := false, laid := [("math/bits.deBruijn64tab", laid_math_bits_deBruijn64tab)] }
def EngineErrsSaid : Prop := engineErrsRow.holds Tryz.pinned (OpenSpec.ofChange engineErrsSpec)

/-- ITS FALSE NEIGHBOUR: 'it returns false'. Refute it at one input. -/
def engineErrsWrong : ChangeSpec := { name := "engineErrs", fn := fun _ => fun
  | [d1, d2] => { results := [.lit (.bool false)], args := [d1, d2] }
  | _ => none }
def EngineErrsWrongFalsely : Prop := engineErrsRow.holds Tryz.pinned (OpenSpec.ofChange engineErrsWrong)

/-- 'arbaclaw43.EngineReads': WHATEVER THE INPUT: true; the input reads as it did. -/
def engineReadsSpec : ChangeSpec := { name := "engineReads", fn := fun _ => fun
  | [d1, d2] => { results := [.lit (.bool true)], args := [d1, d2] }
  | _ => none }
def engineReadsRow : OpenClaim := { program := "ytoclemmcphgikaagreatdoor", sum := "a41048a9db2804a0cbd94fa76fddaba852137f4f9490c2fcb1c9f2314d68d130", func := "arbac/arbaclaw43.EngineReads", spec := "engineReads", unfollowed := true, recurses := true, named := ["math/bits.deBruijn64tab"], apart := false, laid := [("math/bits.deBruijn64tab", laid_math_bits_deBruijn64tab)] }
def EngineReadsSaid : Prop := engineReadsRow.holds Tryz.pinned (OpenSpec.ofChange engineReadsSpec)

/-- ITS FALSE NEIGHBOUR: 'it returns false'. Refute it at one input. -/
def engineReadsWrong : ChangeSpec := { name := "engineReads", fn := fun _ => fun
  | [d1, d2] => { results := [.lit (.bool false)], args := [d1, d2] }
  | _ => none }
def EngineReadsWrongFalsely : Prop := engineReadsRow.holds Tryz.pinned (OpenSpec.ofChange engineReadsWrong)

/-- 'arbaclaw43.EngineBytes': WHATEVER THE INPUT: true; the input reads as it did. -/
def engineBytesSpec : ChangeSpec := { name := "engineBytes", fn := fun _ => fun
  | [d1, d2, d3] => { results := [.lit (.bool true)], args := [d1, d2, d3] }
  | _ => none }
def engineBytesRow : OpenClaim := { program := "ytoclemmcphgikaagreatdoor", sum := "a41048a9db2804a0cbd94fa76fddaba852137f4f9490c2fcb1c9f2314d68d130", func := "arbac/arbaclaw43.EngineBytes", spec := "engineBytes", unfollowed := true, recurses := true, named := ["math/bits.deBruijn64tab"], apart := false, laid := [("math/bits.deBruijn64tab", laid_math_bits_deBruijn64tab)] }
def EngineBytesSaid : Prop := engineBytesRow.holds Tryz.pinned (OpenSpec.ofChange engineBytesSpec)

/-- ITS FALSE NEIGHBOUR: 'it returns false'. Refute it at one input. -/
def engineBytesWrong : ChangeSpec := { name := "engineBytes", fn := fun _ => fun
  | [d1, d2, d3] => { results := [.lit (.bool false)], args := [d1, d2, d3] }
  | _ => none }
def EngineBytesWrongFalsely : Prop := engineBytesRow.holds Tryz.pinned (OpenSpec.ofChange engineBytesWrong)

/- THE SECOND FORM. 'bulk': how many values and letters a reading holds, each counted each time it is reached (what is shared counts as often as it is met; a slice's spare places count too). A statement '..UptoSaid' is the law's where the arguments, and the package variables that the reading takes, are together of bulk at most 1048576: NARROWER than '..Said'. Prove '..Said' where nothing that the law and all that it calls make is longer than what came in: it says more and counts as full. Else prove '..UptoSaid'. A law counts once. -/
mutual
def uptoBulk {H : Type} : DataW H → Nat
  | .lit (.string bytes) => bytes.length + 1
  | .lit _ => 1
  | .nil => 1
  | .ptr d => uptoBulk d + 1
  | .slice elems spare => uptoBulkAll elems + uptoBulkAll spare + 1
  | .agg parts => uptoBulkAll parts + 1
  | .iface _ d => uptoBulk d + 1
  | .map entries => uptoBulkEntries entries + 1
  | .held _ => 1
def uptoBulkAll {H : Type} : List (DataW H) → Nat
  | [] => 0
  | d :: r => uptoBulk d + uptoBulkAll r
def uptoBulkEntries {H : Type} : List (Lit × DataW H) → Nat
  | [] => 0
  | x :: r => uptoBulkEntry x + uptoBulkEntries r
def uptoBulkEntry {H : Type} : Lit × DataW H → Nat
  | (.string bytes, d) => bytes.length + uptoBulk d + 1
  | (_, d) => uptoBulk d + 1
 end
def uptoSmall : (H : Type) → List (DataW H) → Bool := fun _ ds => decide (uptoBulkAll ds ≤ 1048576)
def OpenSpec.upto (s : _root_.Go.ChangeSpec) : _root_.Go.OpenSpec := { _root_.Go.OpenSpec.ofChange s with cond := some uptoSmall }

/-- 'arbaclaw43.EngineAll', WHERE WHAT IT READS IS OF BULK AT MOST 1048576: true; the input reads as it did. -/
def engineAllUptoRow : OpenClaim := { program := "ytoclemmcphgikaagreatdoor", sum := "a41048a9db2804a0cbd94fa76fddaba852137f4f9490c2fcb1c9f2314d68d130", func := "arbac/arbaclaw43.EngineAll", spec := "engineAll", unfollowed := true, recurses := true, named := ["math/bits.deBruijn64tab"], apart := false, laid := [("math/bits.deBruijn64tab", laid_math_bits_deBruijn64tab)], narrowed := true }
def EngineAllUptoSaid : Prop := engineAllUptoRow.holds Tryz.pinned (OpenSpec.upto engineAllSpec)

/-- 'arbaclaw43.EngineAsks', WHERE WHAT IT READS IS OF BULK AT MOST 1048576: true; the input reads as it did. -/
def engineAsksUptoRow : OpenClaim := { program := "ytoclemmcphgikaagreatdoor", sum := "a41048a9db2804a0cbd94fa76fddaba852137f4f9490c2fcb1c9f2314d68d130", func := "arbac/arbaclaw43.EngineAsks", spec := "engineAsks", unfollowed := true, recurses := true, named := ["math/bits.deBruijn64tab"], apart := false, laid := [("math/bits.deBruijn64tab", laid_math_bits_deBruijn64tab)], narrowed := true }
def EngineAsksUptoSaid : Prop := engineAsksUptoRow.holds Tryz.pinned (OpenSpec.upto engineAsksSpec)

/-- 'arbaclaw43.EngineStaffs', WHERE WHAT IT READS IS OF BULK AT MOST 1048576: true; the input reads as it did. -/
def engineStaffsUptoRow : OpenClaim := { program := "ytoclemmcphgikaagreatdoor", sum := "a41048a9db2804a0cbd94fa76fddaba852137f4f9490c2fcb1c9f2314d68d130", func := "arbac/arbaclaw43.EngineStaffs", spec := "engineStaffs", unfollowed := true, recurses := true, named := ["math/bits.deBruijn64tab"], apart := false, laid := [("math/bits.deBruijn64tab", laid_math_bits_deBruijn64tab)], narrowed := true }
def EngineStaffsUptoSaid : Prop := engineStaffsUptoRow.holds Tryz.pinned (OpenSpec.upto engineStaffsSpec)

/-- 'arbaclaw43.EngineUsers', WHERE WHAT IT READS IS OF BULK AT MOST 1048576: true; the input reads as it did. -/
def engineUsersUptoRow : OpenClaim := { program := "ytoclemmcphgikaagreatdoor", sum := "a41048a9db2804a0cbd94fa76fddaba852137f4f9490c2fcb1c9f2314d68d130", func := "arbac/arbaclaw43.EngineUsers", spec := "engineUsers", unfollowed := true, recurses := true, named := ["math/bits.deBruijn64tab"], apart := false, laid := [("math/bits.deBruijn64tab", laid_math_bits_deBruijn64tab)], narrowed := true }
def EngineUsersUptoSaid : Prop := engineUsersUptoRow.holds Tryz.pinned (OpenSpec.upto engineUsersSpec)

/-- 'arbaclaw43.EngineEnds', WHERE WHAT IT READS IS OF BULK AT MOST 1048576: true; the input reads as it did. -/
def engineEndsUptoRow : OpenClaim := { program := "ytoclemmcphgikaagreatdoor", sum := "a41048a9db2804a0cbd94fa76fddaba852137f4f9490c2fcb1c9f2314d68d130", func := "arbac/arbaclaw43.EngineEnds", spec := "engineEnds", unfollowed := true, recurses := true, named := ["math/bits.deBruijn64tab"], apart := false, laid := [("math/bits.deBruijn64tab", laid_math_bits_deBruijn64tab)], narrowed := true }
def EngineEndsUptoSaid : Prop := engineEndsUptoRow.holds Tryz.pinned (OpenSpec.upto engineEndsSpec)

/-- 'arbaclaw43.EngineAdapts', WHERE WHAT IT READS IS OF BULK AT MOST 1048576: true; the input reads as it did. -/
def engineAdaptsUptoRow : OpenClaim := { program := "ytoclemmcphgikaagreatdoor", sum := "a41048a9db2804a0cbd94fa76fddaba852137f4f9490c2fcb1c9f2314d68d130", func := "arbac/arbaclaw43.EngineAdapts", spec := "engineAdapts", unfollowed := true, recurses := true, named := ["math/bits.deBruijn64tab"], apart := false, laid := [("math/bits.deBruijn64tab", laid_math_bits_deBruijn64tab)], narrowed := true }
def EngineAdaptsUptoSaid : Prop := engineAdaptsUptoRow.holds Tryz.pinned (OpenSpec.upto engineAdaptsSpec)

/-- 'arbaclaw43.EngineErrs', WHERE WHAT IT READS IS OF BULK AT MOST 1048576: true; the input reads as it did. -/
def engineErrsUptoRow : OpenClaim := { program := "ytoclemmcphgikaagreatdoor", sum := "a41048a9db2804a0cbd94fa76fddaba852137f4f9490c2fcb1c9f2314d68d130", func := "arbac/arbaclaw43.EngineErrs", spec := "engineErrs", unfollowed := true, recurses := true, named := ["math/bits.deBruijn64tab"], apart := false, laid := [("math/bits.deBruijn64tab", laid_math_bits_deBruijn64tab)], narrowed := true }
def EngineErrsUptoSaid : Prop := engineErrsUptoRow.holds Tryz.pinned (OpenSpec.upto engineErrsSpec)

/-- 'arbaclaw43.EngineReads', WHERE WHAT IT READS IS OF BULK AT MOST 1048576: true; the input reads as it did. -/
def engineReadsUptoRow : OpenClaim := { program := "ytoclemmcphgikaagreatdoor", sum := "a41048a9db2804a0cbd94fa76fddaba852137f4f9490c2fcb1c9f2314d68d130", func := "arbac/arbaclaw43.EngineReads", spec := "engineReads", unfollowed := true, recurses := true, named := ["math/bits.deBruijn64tab"], apart := false, laid := [("math/bits.deBruijn64tab", laid_math_bits_deBruijn64tab)], narrowed := true }
def EngineReadsUptoSaid : Prop := engineReadsUptoRow.holds Tryz.pinned (OpenSpec.upto engineReadsSpec)

/-- 'arbaclaw43.EngineBytes', WHERE WHAT IT READS IS OF BULK AT MOST 1048576: true; the input reads as it did. -/
def engineBytesUptoRow : OpenClaim := { program := "ytoclemmcphgikaagreatdoor", sum := "a41048a9db2804a0cbd94fa76fddaba852137f4f9490c2fcb1c9f2314d68d130", func := "arbac/arbaclaw43.EngineBytes", spec := "engineBytes", unfollowed := true, recurses := true, named := ["math/bits.deBruijn64tab"], apart := false, laid := [("math/bits.deBruijn64tab", laid_math_bits_deBruijn64tab)], narrowed := true }
def EngineBytesUptoSaid : Prop := engineBytesUptoRow.holds Tryz.pinned (OpenSpec.upto engineBytesSpec)

end Rows
end Go.Proofs.YtoclemmcphgikaaGreatDoor
