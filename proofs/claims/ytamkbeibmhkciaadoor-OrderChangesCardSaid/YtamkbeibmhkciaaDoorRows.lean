/-
  NARROWER THAN 'FOR EVERY INPUT', by the rows' own cells (each row's printed sentence says how): OrderSorts: laid · OrderPaths: laid · OrderPairs: laid · OrderEnds: laid · OrderCovers: laid · OrderMakes: laid · OrderAsks: laid · OrderReduces: laid · OrderChanges: laid · OrderNil: laid.
  DERIVED. THE GIVEN ROWS OF THIS SEAT. 10 by the template 'for every input the law returns true; each argument reads behind the call as it read before'; 0 by the template 'total and deterministic' (their statements: YtamkbeibmhkciaaDoorTotals.lean).
  GIVEN WITH THE SEED: the statements are not yours to turn. If you find one false, say at which input.
  Laid BY PROGRAM, IN A SANDBOX (cutbox-rows.mjs): the forced cells as the released guide's own fill.sh prints them over the translation 38d11026f8ef5745… (all of the seat's roots in one cut). By AI agents, Wed Nov 11 2026. No macro, syntax, notation, axiom, sorry.
-/
import Derived.Test.YtamkbeibmhkciaaDoorChecked
import GoSem.Claim
import GoSem.ClaimJoined
import GoSem.ClaimMapViews
import Derived.JoinedTies
import Derived.KernelRfl
namespace Go.Proofs.YtamkbeibmhkciaaDoor
/- THE CELL 'sum', in the pinned program and in every row, IS THE sha256 OF THE DUMP (.gsa) THAT YtamkbeibmhkciaaDoorProg.lean LOADS. Nothing in Lean hashes anything: it is a label: what it is worth is what the hold of that sum in a sandbox is worth. -/
noncomputable def Tryd.pinned : Pinned := { name := "ytamkbeibmhkciaadoor", sum := "38d11026f8ef5745be5860fdb8ee8026ae235a5c9f7066ee768c4979bbaa5ae7", checked := Tryd.checked }
namespace Rows
def none {H : Type} : Left H := { results := [], args := [] }

/- WHAT THE LISTED PACKAGE-LEVEL VARIABLES READ AS WHEN THE CALL BEGINS. Each datum BY PROGRAM (the guide's laid-datum.mjs) off the statement by which the dump's own 'gosem.cut.vars' lays the variable. In a bare row this is a premise. The card (YtamkbeibmhkciaaDoorCards.lean) ties it to the program's text. -/
def laid_math_bits_deBruijn32tab {H : Type} : DataW H := .agg [.lit (.int .u8 0), .lit (.int .u8 1), .lit (.int .u8 28), .lit (.int .u8 2), .lit (.int .u8 29), .lit (.int .u8 14), .lit (.int .u8 24), .lit (.int .u8 3), .lit (.int .u8 30), .lit (.int .u8 22), .lit (.int .u8 20), .lit (.int .u8 15), .lit (.int .u8 25), .lit (.int .u8 17), .lit (.int .u8 4), .lit (.int .u8 8), .lit (.int .u8 31), .lit (.int .u8 27), .lit (.int .u8 13), .lit (.int .u8 23), .lit (.int .u8 21), .lit (.int .u8 19), .lit (.int .u8 16), .lit (.int .u8 7), .lit (.int .u8 26), .lit (.int .u8 12), .lit (.int .u8 18), .lit (.int .u8 6), .lit (.int .u8 11), .lit (.int .u8 5), .lit (.int .u8 10), .lit (.int .u8 9)]
def laid_math_bits_deBruijn64tab {H : Type} : DataW H := .agg [.lit (.int .u8 0), .lit (.int .u8 1), .lit (.int .u8 56), .lit (.int .u8 2), .lit (.int .u8 57), .lit (.int .u8 49), .lit (.int .u8 28), .lit (.int .u8 3), .lit (.int .u8 61), .lit (.int .u8 58), .lit (.int .u8 42), .lit (.int .u8 50), .lit (.int .u8 38), .lit (.int .u8 29), .lit (.int .u8 17), .lit (.int .u8 4), .lit (.int .u8 62), .lit (.int .u8 47), .lit (.int .u8 59), .lit (.int .u8 36), .lit (.int .u8 45), .lit (.int .u8 43), .lit (.int .u8 51), .lit (.int .u8 22), .lit (.int .u8 53), .lit (.int .u8 39), .lit (.int .u8 33), .lit (.int .u8 30), .lit (.int .u8 24), .lit (.int .u8 18), .lit (.int .u8 12), .lit (.int .u8 5), .lit (.int .u8 63), .lit (.int .u8 55), .lit (.int .u8 48), .lit (.int .u8 27), .lit (.int .u8 60), .lit (.int .u8 41), .lit (.int .u8 37), .lit (.int .u8 16), .lit (.int .u8 46), .lit (.int .u8 35), .lit (.int .u8 44), .lit (.int .u8 21), .lit (.int .u8 52), .lit (.int .u8 32), .lit (.int .u8 23), .lit (.int .u8 11), .lit (.int .u8 54), .lit (.int .u8 26), .lit (.int .u8 40), .lit (.int .u8 15), .lit (.int .u8 34), .lit (.int .u8 20), .lit (.int .u8 31), .lit (.int .u8 10), .lit (.int .u8 25), .lit (.int .u8 14), .lit (.int .u8 19), .lit (.int .u8 9), .lit (.int .u8 13), .lit (.int .u8 8), .lit (.int .u8 7), .lit (.int .u8 6)]
def laid_internal_strconv_uint64pow10 {H : Type} : DataW H := .agg [.lit (.int .u64 1), .lit (.int .u64 10), .lit (.int .u64 100), .lit (.int .u64 1000), .lit (.int .u64 10000), .lit (.int .u64 100000), .lit (.int .u64 1000000), .lit (.int .u64 10000000), .lit (.int .u64 100000000), .lit (.int .u64 1000000000), .lit (.int .u64 10000000000), .lit (.int .u64 100000000000), .lit (.int .u64 1000000000000), .lit (.int .u64 10000000000000), .lit (.int .u64 100000000000000), .lit (.int .u64 1000000000000000), .lit (.int .u64 10000000000000000), .lit (.int .u64 100000000000000000), .lit (.int .u64 1000000000000000000), .lit (.int .u64 10000000000000000000)]

/-- 'arbaclaw06.OrderSorts': WHATEVER THE INPUT: true; the input reads as it did. -/
def orderSortsSpec : ChangeSpec := { name := "orderSorts", fn := fun _ => fun
  | [d] => { results := [.lit (.bool true)], args := [d] }
  | _ => none }
def orderSortsRow : OpenClaim := { program := "ytamkbeibmhkciaadoor", sum := "38d11026f8ef5745be5860fdb8ee8026ae235a5c9f7066ee768c4979bbaa5ae7", func := "arbac/arbaclaw06.OrderSorts", spec := "orderSorts", inPlace := ["internal/abi.NoEscape"], unfollowed := true, recurses := true, named := ["math/bits.deBruijn64tab", "internal/strconv.uint64pow10", "math/bits.deBruijn32tab"], apart := false, laid := [("math/bits.deBruijn32tab", laid_math_bits_deBruijn32tab), ("math/bits.deBruijn64tab", laid_math_bits_deBruijn64tab), ("internal/strconv.uint64pow10", laid_internal_strconv_uint64pow10)] }
def OrderSortsSaid : Prop := orderSortsRow.holds Tryd.pinned (OpenSpec.ofChange orderSortsSpec)

/-- ITS FALSE NEIGHBOUR: 'it returns false'. Refute it at one input. -/
def orderSortsWrong : ChangeSpec := { name := "orderSorts", fn := fun _ => fun
  | [d] => { results := [.lit (.bool false)], args := [d] }
  | _ => none }
def OrderSortsWrongFalsely : Prop := orderSortsRow.holds Tryd.pinned (OpenSpec.ofChange orderSortsWrong)

/-- 'arbaclaw06.OrderPaths': WHATEVER THE INPUT: true; the input reads as it did. -/
def orderPathsSpec : ChangeSpec := { name := "orderPaths", fn := fun _ => fun
  | [d1, d2, d3] => { results := [.lit (.bool true)], args := [d1, d2, d3] }
  | _ => none }
def orderPathsRow : OpenClaim := { program := "ytamkbeibmhkciaadoor", sum := "38d11026f8ef5745be5860fdb8ee8026ae235a5c9f7066ee768c4979bbaa5ae7", func := "arbac/arbaclaw06.OrderPaths", spec := "orderPaths", inPlace := ["internal/abi.NoEscape"], unfollowed := true, recurses := true, named := ["math/bits.deBruijn64tab", "internal/strconv.uint64pow10", "math/bits.deBruijn32tab"], apart := false, laid := [("math/bits.deBruijn32tab", laid_math_bits_deBruijn32tab), ("math/bits.deBruijn64tab", laid_math_bits_deBruijn64tab), ("internal/strconv.uint64pow10", laid_internal_strconv_uint64pow10)] }
def OrderPathsSaid : Prop := orderPathsRow.holds Tryd.pinned (OpenSpec.ofChange orderPathsSpec)

/-- ITS FALSE NEIGHBOUR: 'it returns false'. Refute it at one input. -/
def orderPathsWrong : ChangeSpec := { name := "orderPaths", fn := fun _ => fun
  | [d1, d2, d3] => { results := [.lit (.bool false)], args := [d1, d2, d3] }
  | _ => none }
def OrderPathsWrongFalsely : Prop := orderPathsRow.holds Tryd.pinned (OpenSpec.ofChange orderPathsWrong)

/-- 'arbaclaw06.OrderPairs': WHATEVER THE INPUT: true; the input reads as it did. -/
def orderPairsSpec : ChangeSpec := { name := "orderPairs", fn := fun _ => fun
  | [d1, d2, d3] => { results := [.lit (.bool true)], args := [d1, d2, d3] }
  | _ => none }
def orderPairsRow : OpenClaim := { program := "ytamkbeibmhkciaadoor", sum := "38d11026f8ef5745be5860fdb8ee8026ae235a5c9f7066ee768c4979bbaa5ae7", func := "arbac/arbaclaw06.OrderPairs", spec := "orderPairs", inPlace := ["internal/abi.NoEscape"], unfollowed := true, recurses := true, named := ["math/bits.deBruijn64tab", "internal/strconv.uint64pow10", "math/bits.deBruijn32tab"], apart := false, laid := [("math/bits.deBruijn32tab", laid_math_bits_deBruijn32tab), ("math/bits.deBruijn64tab", laid_math_bits_deBruijn64tab), ("internal/strconv.uint64pow10", laid_internal_strconv_uint64pow10)] }
def OrderPairsSaid : Prop := orderPairsRow.holds Tryd.pinned (OpenSpec.ofChange orderPairsSpec)

/-- ITS FALSE NEIGHBOUR: 'it returns false'. Refute it at one input. -/
def orderPairsWrong : ChangeSpec := { name := "orderPairs", fn := fun _ => fun
  | [d1, d2, d3] => { results := [.lit (.bool false)], args := [d1, d2, d3] }
  | _ => none }
def OrderPairsWrongFalsely : Prop := orderPairsRow.holds Tryd.pinned (OpenSpec.ofChange orderPairsWrong)

/-- 'arbaclaw06.OrderEnds': WHATEVER THE INPUT: true; the input reads as it did. -/
def orderEndsSpec : ChangeSpec := { name := "orderEnds", fn := fun _ => fun
  | [d] => { results := [.lit (.bool true)], args := [d] }
  | _ => none }
def orderEndsRow : OpenClaim := { program := "ytamkbeibmhkciaadoor", sum := "38d11026f8ef5745be5860fdb8ee8026ae235a5c9f7066ee768c4979bbaa5ae7", func := "arbac/arbaclaw06.OrderEnds", spec := "orderEnds", inPlace := ["internal/abi.NoEscape"], unfollowed := true, recurses := true, named := ["math/bits.deBruijn64tab", "internal/strconv.uint64pow10", "math/bits.deBruijn32tab"], apart := false, laid := [("math/bits.deBruijn32tab", laid_math_bits_deBruijn32tab), ("math/bits.deBruijn64tab", laid_math_bits_deBruijn64tab), ("internal/strconv.uint64pow10", laid_internal_strconv_uint64pow10)] }
def OrderEndsSaid : Prop := orderEndsRow.holds Tryd.pinned (OpenSpec.ofChange orderEndsSpec)

/-- ITS FALSE NEIGHBOUR: 'it returns false'. Refute it at one input. -/
def orderEndsWrong : ChangeSpec := { name := "orderEnds", fn := fun _ => fun
  | [d] => { results := [.lit (.bool false)], args := [d] }
  | _ => none }
def OrderEndsWrongFalsely : Prop := orderEndsRow.holds Tryd.pinned (OpenSpec.ofChange orderEndsWrong)

/-- 'arbaclaw06.OrderCovers': WHATEVER THE INPUT: true; the input reads as it did. -/
def orderCoversSpec : ChangeSpec := { name := "orderCovers", fn := fun _ => fun
  | [d] => { results := [.lit (.bool true)], args := [d] }
  | _ => none }
def orderCoversRow : OpenClaim := { program := "ytamkbeibmhkciaadoor", sum := "38d11026f8ef5745be5860fdb8ee8026ae235a5c9f7066ee768c4979bbaa5ae7", func := "arbac/arbaclaw06.OrderCovers", spec := "orderCovers", inPlace := ["internal/abi.NoEscape"], unfollowed := true, recurses := true, named := ["math/bits.deBruijn64tab", "internal/strconv.uint64pow10", "math/bits.deBruijn32tab"], apart := false, laid := [("math/bits.deBruijn32tab", laid_math_bits_deBruijn32tab), ("math/bits.deBruijn64tab", laid_math_bits_deBruijn64tab), ("internal/strconv.uint64pow10", laid_internal_strconv_uint64pow10)] }
def OrderCoversSaid : Prop := orderCoversRow.holds Tryd.pinned (OpenSpec.ofChange orderCoversSpec)

/-- ITS FALSE NEIGHBOUR: 'it returns false'. Refute it at one input. -/
def orderCoversWrong : ChangeSpec := { name := "orderCovers", fn := fun _ => fun
  | [d] => { results := [.lit (.bool false)], args := [d] }
  | _ => none }
def OrderCoversWrongFalsely : Prop := orderCoversRow.holds Tryd.pinned (OpenSpec.ofChange orderCoversWrong)

/-- 'arbaclaw06.OrderMakes': WHATEVER THE INPUT: true; the input reads as it did. -/
def orderMakesSpec : ChangeSpec := { name := "orderMakes", fn := fun _ => fun
  | [d1, d2] => { results := [.lit (.bool true)], args := [d1, d2] }
  | _ => none }
def orderMakesRow : OpenClaim := { program := "ytamkbeibmhkciaadoor", sum := "38d11026f8ef5745be5860fdb8ee8026ae235a5c9f7066ee768c4979bbaa5ae7", func := "arbac/arbaclaw06.OrderMakes", spec := "orderMakes", inPlace := ["internal/abi.NoEscape"], unfollowed := true, recurses := true, named := ["math/bits.deBruijn64tab", "internal/strconv.uint64pow10", "math/bits.deBruijn32tab"], apart := false, laid := [("math/bits.deBruijn32tab", laid_math_bits_deBruijn32tab), ("math/bits.deBruijn64tab", laid_math_bits_deBruijn64tab), ("internal/strconv.uint64pow10", laid_internal_strconv_uint64pow10)] }
def OrderMakesSaid : Prop := orderMakesRow.holds Tryd.pinned (OpenSpec.ofChange orderMakesSpec)

/-- ITS FALSE NEIGHBOUR: 'it returns false'. Refute it at one input. -/
def orderMakesWrong : ChangeSpec := { name := "orderMakes", fn := fun _ => fun
  | [d1, d2] => { results := [.lit (.bool false)], args := [d1, d2] }
  | _ => none }
def OrderMakesWrongFalsely : Prop := orderMakesRow.holds Tryd.pinned (OpenSpec.ofChange orderMakesWrong)

/-- 'arbaclaw06.OrderAsks': WHATEVER THE INPUT: true; the input reads as it did. -/
def orderAsksSpec : ChangeSpec := { name := "orderAsks", fn := fun _ => fun
  | [d1, d2, d3] => { results := [.lit (.bool true)], args := [d1, d2, d3] }
  | _ => none }
def orderAsksRow : OpenClaim := { program := "ytamkbeibmhkciaadoor", sum := "38d11026f8ef5745be5860fdb8ee8026ae235a5c9f7066ee768c4979bbaa5ae7", func := "arbac/arbaclaw06.OrderAsks", spec := "orderAsks", inPlace := ["internal/abi.NoEscape"], unfollowed := true, recurses := true, named := ["math/bits.deBruijn64tab", "internal/strconv.uint64pow10", "math/bits.deBruijn32tab"], apart := false, laid := [("math/bits.deBruijn32tab", laid_math_bits_deBruijn32tab), ("math/bits.deBruijn64tab", laid_math_bits_deBruijn64tab), ("internal/strconv.uint64pow10", laid_internal_strconv_uint64pow10)] }
def OrderAsksSaid : Prop := orderAsksRow.holds Tryd.pinned (OpenSpec.ofChange orderAsksSpec)

/-- ITS FALSE NEIGHBOUR: 'it returns false'. Refute it at one input. -/
def orderAsksWrong : ChangeSpec := { name := "orderAsks", fn := fun _ => fun
  | [d1, d2, d3] => { results := [.lit (.bool false)], args := [d1, d2, d3] }
  | _ => none }
def OrderAsksWrongFalsely : Prop := orderAsksRow.holds Tryd.pinned (OpenSpec.ofChange orderAsksWrong)

/-- 'arbaclaw06.OrderReduces': WHATEVER THE INPUT: true; the input reads as it did. -/
def orderReducesSpec : ChangeSpec := { name := "orderReduces", fn := fun _ => fun
  | [d] => { results := [.lit (.bool true)], args := [d] }
  | _ => none }
def orderReducesRow : OpenClaim := { program := "ytamkbeibmhkciaadoor", sum := "38d11026f8ef5745be5860fdb8ee8026ae235a5c9f7066ee768c4979bbaa5ae7", func := "arbac/arbaclaw06.OrderReduces", spec := "orderReduces", inPlace := ["internal/abi.NoEscape"], unfollowed := true, recurses := true, named := ["math/bits.deBruijn64tab", "internal/strconv.uint64pow10", "math/bits.deBruijn32tab"], apart := false, laid := [("math/bits.deBruijn32tab", laid_math_bits_deBruijn32tab), ("math/bits.deBruijn64tab", laid_math_bits_deBruijn64tab), ("internal/strconv.uint64pow10", laid_internal_strconv_uint64pow10)] }
def OrderReducesSaid : Prop := orderReducesRow.holds Tryd.pinned (OpenSpec.ofChange orderReducesSpec)

/-- ITS FALSE NEIGHBOUR: 'it returns false'. Refute it at one input. -/
def orderReducesWrong : ChangeSpec := { name := "orderReduces", fn := fun _ => fun
  | [d] => { results := [.lit (.bool false)], args := [d] }
  | _ => none }
def OrderReducesWrongFalsely : Prop := orderReducesRow.holds Tryd.pinned (OpenSpec.ofChange orderReducesWrong)

/-- 'arbaclaw06.OrderChanges': WHATEVER THE INPUT: true; the input reads as it did. -/
def orderChangesSpec : ChangeSpec := { name := "orderChanges", fn := fun _ => fun
  | [d1, d2] => { results := [.lit (.bool true)], args := [d1, d2] }
  | _ => none }
def orderChangesRow : OpenClaim := { program := "ytamkbeibmhkciaadoor", sum := "38d11026f8ef5745be5860fdb8ee8026ae235a5c9f7066ee768c4979bbaa5ae7", func := "arbac/arbaclaw06.OrderChanges", spec := "orderChanges", inPlace := ["internal/abi.NoEscape"], unfollowed := true, recurses := true, named := ["math/bits.deBruijn64tab", "internal/strconv.uint64pow10", "math/bits.deBruijn32tab"], apart := false, laid := [("math/bits.deBruijn32tab", laid_math_bits_deBruijn32tab), ("math/bits.deBruijn64tab", laid_math_bits_deBruijn64tab), ("internal/strconv.uint64pow10", laid_internal_strconv_uint64pow10)] }
def OrderChangesSaid : Prop := orderChangesRow.holds Tryd.pinned (OpenSpec.ofChange orderChangesSpec)

/-- ITS FALSE NEIGHBOUR: 'it returns false'. Refute it at one input. -/
def orderChangesWrong : ChangeSpec := { name := "orderChanges", fn := fun _ => fun
  | [d1, d2] => { results := [.lit (.bool false)], args := [d1, d2] }
  | _ => none }
def OrderChangesWrongFalsely : Prop := orderChangesRow.holds Tryd.pinned (OpenSpec.ofChange orderChangesWrong)

/-- 'arbaclaw06.OrderNil': WHATEVER THE INPUT: true; the input reads as it did. -/
def orderNilSpec : ChangeSpec := { name := "orderNil", fn := fun _ => fun
  | [d1, d2, d3] => { results := [.lit (.bool true)], args := [d1, d2, d3] }
  | _ => none }
def orderNilRow : OpenClaim := { program := "ytamkbeibmhkciaadoor", sum := "38d11026f8ef5745be5860fdb8ee8026ae235a5c9f7066ee768c4979bbaa5ae7", func := "arbac/arbaclaw06.OrderNil", spec := "orderNil", inPlace := ["internal/abi.NoEscape"], unfollowed := true, recurses := true, named := ["math/bits.deBruijn64tab", "internal/strconv.uint64pow10", "math/bits.deBruijn32tab"], apart := false, laid := [("math/bits.deBruijn32tab", laid_math_bits_deBruijn32tab), ("math/bits.deBruijn64tab", laid_math_bits_deBruijn64tab), ("internal/strconv.uint64pow10", laid_internal_strconv_uint64pow10)] }
def OrderNilSaid : Prop := orderNilRow.holds Tryd.pinned (OpenSpec.ofChange orderNilSpec)

/-- ITS FALSE NEIGHBOUR: 'it returns false'. Refute it at one input. -/
def orderNilWrong : ChangeSpec := { name := "orderNil", fn := fun _ => fun
  | [d1, d2, d3] => { results := [.lit (.bool false)], args := [d1, d2, d3] }
  | _ => none }
def OrderNilWrongFalsely : Prop := orderNilRow.holds Tryd.pinned (OpenSpec.ofChange orderNilWrong)

/- THE SECOND FORM. 'bulk': how many values and letters a reading holds, each counted each time it is reached (what is shared counts as often as it is met; a slice's spare places count too). A statement '..UptoSaid' is the law's where the arguments, and the package variables that the reading takes, are together of bulk at most 1048576: NARROWER than '..Said'. Prove '..Said' where nothing that the law and all that it calls make is longer than what came in: it says more and counts as full. Else prove '..UptoSaid'. A law counts once. -/
mutual
def uptoBulk {H : Type} : DataW H → Nat
  | .lit (.string bytes) => bytes.length + 1
  | .lit _ => 1
  | .nil => 1
  | .ptr d => uptoBulk d + 1
  | .slice elems spare => uptoBulkAll elems + uptoBulkAll spare + 1
  | .agg parts => uptoBulkAll parts + 1
  | .iface _ d => uptoBulk d + 1
  | .map entries => uptoBulkEntries entries + 1
  | .held _ => 1
def uptoBulkAll {H : Type} : List (DataW H) → Nat
  | [] => 0
  | d :: r => uptoBulk d + uptoBulkAll r
def uptoBulkEntries {H : Type} : List (Lit × DataW H) → Nat
  | [] => 0
  | x :: r => uptoBulkEntry x + uptoBulkEntries r
def uptoBulkEntry {H : Type} : Lit × DataW H → Nat
  | (.string bytes, d) => bytes.length + uptoBulk d + 1
  | (_, d) => uptoBulk d + 1
 end
def uptoSmall : (H : Type) → List (DataW H) → Bool := fun _ ds => decide (uptoBulkAll ds ≤ 1048576)
def OpenSpec.upto (s : _root_.Go.ChangeSpec) : _root_.Go.OpenSpec := { _root_.Go.OpenSpec.ofChange s with cond := some uptoSmall }

/-- 'arbaclaw06.OrderSorts', WHERE WHAT IT READS IS OF BULK AT MOST 1048576: true; the input reads as it did. -/
def orderSortsUptoRow : OpenClaim := { program := "ytamkbeibmhkciaadoor", sum := "38d11026f8ef5745be5860fdb8ee8026ae235a5c9f7066ee768c4979bbaa5ae7", func := "arbac/arbaclaw06.OrderSorts", spec := "orderSorts", inPlace := ["internal/abi.NoEscape"], unfollowed := true, recurses := true, named := ["math/bits.deBruijn64tab", "internal/strconv.uint64pow10", "math/bits.deBruijn32tab"], apart := false, laid := [("math/bits.deBruijn32tab", laid_math_bits_deBruijn32tab), ("math/bits.deBruijn64tab", laid_math_bits_deBruijn64tab), ("internal/strconv.uint64pow10", laid_internal_strconv_uint64pow10)], narrowed := true }
def OrderSortsUptoSaid : Prop := orderSortsUptoRow.holds Tryd.pinned (OpenSpec.upto orderSortsSpec)

/-- 'arbaclaw06.OrderPaths', WHERE WHAT IT READS IS OF BULK AT MOST 1048576: true; the input reads as it did. -/
def orderPathsUptoRow : OpenClaim := { program := "ytamkbeibmhkciaadoor", sum := "38d11026f8ef5745be5860fdb8ee8026ae235a5c9f7066ee768c4979bbaa5ae7", func := "arbac/arbaclaw06.OrderPaths", spec := "orderPaths", inPlace := ["internal/abi.NoEscape"], unfollowed := true, recurses := true, named := ["math/bits.deBruijn64tab", "internal/strconv.uint64pow10", "math/bits.deBruijn32tab"], apart := false, laid := [("math/bits.deBruijn32tab", laid_math_bits_deBruijn32tab), ("math/bits.deBruijn64tab", laid_math_bits_deBruijn64tab), ("internal/strconv.uint64pow10", laid_internal_strconv_uint64pow10)], narrowed := true }
def OrderPathsUptoSaid : Prop := orderPathsUptoRow.holds Tryd.pinned (OpenSpec.upto orderPathsSpec)

/-- 'arbaclaw06.OrderPairs', WHERE WHAT IT READS IS OF BULK AT MOST 1048576: true; the input reads as it did. -/
def orderPairsUptoRow : OpenClaim := { program := "ytamkbeibmhkciaadoor", sum := "38d11026f8ef5745be5860fdb8ee8026ae235a5c9f7066ee768c4979bbaa5ae7", func := "arbac/arbaclaw06.OrderPairs", spec := "orderPairs", inPlace := ["internal/abi.NoEscape"], unfollowed := true, recurses := true, named := ["math/bits.deBruijn64tab", "internal/strconv.uint64pow10", "math/bits.deBruijn32tab"], apart := false, laid := [("math/bits.deBruijn32tab", laid_math_bits_deBruijn32tab), ("math/bits.deBruijn64tab", laid_math_bits_deBruijn64tab), ("internal/strconv.uint64pow10", laid_internal_strconv_uint64pow10)], narrowed := true }
def OrderPairsUptoSaid : Prop := orderPairsUptoRow.holds Tryd.pinned (OpenSpec.upto orderPairsSpec)

/-- 'arbaclaw06.OrderEnds', WHERE WHAT IT READS IS OF BULK AT MOST 1048576: true; the input reads as it did. -/
def orderEndsUptoRow : OpenClaim := { program := "ytamkbeibmhkciaadoor", sum := "38d11026f8ef5745be5860fdb8ee8026ae235a5c9f7066ee768c4979bbaa5ae7", func := "arbac/arbaclaw06.OrderEnds", spec := "orderEnds", inPlace := ["internal/abi.NoEscape"], unfollowed := true, recurses := true, named := ["math/bits.deBruijn64tab", "internal/strconv.uint64pow10", "math/bits.deBruijn32tab"], apart := false, laid := [("math/bits.deBruijn32tab", laid_math_bits_deBruijn32tab), ("math/bits.deBruijn64tab", laid_math_bits_deBruijn64tab), ("internal/strconv.uint64pow10", laid_internal_strconv_uint64pow10)], narrowed := true }
def OrderEndsUptoSaid : Prop := orderEndsUptoRow.holds Tryd.pinned (OpenSpec.upto orderEndsSpec)

/-- 'arbaclaw06.OrderCovers', WHERE WHAT IT READS IS OF BULK AT MOST 1048576: true; the input reads as it did. -/
def orderCoversUptoRow : OpenClaim := { program := "ytamkbeibmhkciaadoor", sum := "38d11026f8ef5745be5860fdb8ee8026ae235a5c9f7066ee768c4979bbaa5ae7", func := "arbac/arbaclaw06.OrderCovers", spec := "orderCovers", inPlace := ["internal/abi.NoEscape"], unfollowed := true, recurses := true, named := ["math/bits.deBruijn64tab", "internal/strconv.uint64pow10", "math/bits.deBruijn32tab"], apart := false, laid := [("math/bits.deBruijn32tab", laid_math_bits_deBruijn32tab), ("math/bits.deBruijn64tab", laid_math_bits_deBruijn64tab), ("internal/strconv.uint64pow10", laid_internal_strconv_uint64pow10)], narrowed := true }
def OrderCoversUptoSaid : Prop := orderCoversUptoRow.holds Tryd.pinned (OpenSpec.upto orderCoversSpec)

/-- 'arbaclaw06.OrderMakes', WHERE WHAT IT READS IS OF BULK AT MOST 1048576: true; the input reads as it did. -/
def orderMakesUptoRow : OpenClaim := { program := "ytamkbeibmhkciaadoor", sum := "38d11026f8ef5745be5860fdb8ee8026ae235a5c9f7066ee768c4979bbaa5ae7", func := "arbac/arbaclaw06.OrderMakes", spec := "orderMakes", inPlace := ["internal/abi.NoEscape"], unfollowed := true, recurses := true, named := ["math/bits.deBruijn64tab", "internal/strconv.uint64pow10", "math/bits.deBruijn32tab"], apart := false, laid := [("math/bits.deBruijn32tab", laid_math_bits_deBruijn32tab), ("math/bits.deBruijn64tab", laid_math_bits_deBruijn64tab), ("internal/strconv.uint64pow10", laid_internal_strconv_uint64pow10)], narrowed := true }
def OrderMakesUptoSaid : Prop := orderMakesUptoRow.holds Tryd.pinned (OpenSpec.upto orderMakesSpec)

/-- 'arbaclaw06.OrderAsks', WHERE WHAT IT READS IS OF BULK AT MOST 1048576: true; the input reads as it did. -/
def orderAsksUptoRow : OpenClaim := { program := "ytamkbeibmhkciaadoor", sum := "38d11026f8ef5745be5860fdb8ee8026ae235a5c9f7066ee768c4979bbaa5ae7", func := "arbac/arbaclaw06.OrderAsks", spec := "orderAsks", inPlace := ["internal/abi.NoEscape"], unfollowed := true, recurses := true, named := ["math/bits.deBruijn64tab", "internal/strconv.uint64pow10", "math/bits.deBruijn32tab"], apart := false, laid := [("math/bits.deBruijn32tab", laid_math_bits_deBruijn32tab), ("math/bits.deBruijn64tab", laid_math_bits_deBruijn64tab), ("internal/strconv.uint64pow10", laid_internal_strconv_uint64pow10)], narrowed := true }
def OrderAsksUptoSaid : Prop := orderAsksUptoRow.holds Tryd.pinned (OpenSpec.upto orderAsksSpec)

/-- 'arbaclaw06.OrderReduces', WHERE WHAT IT READS IS OF BULK AT MOST 1048576: true; the input reads as it did. -/
def orderReducesUptoRow : OpenClaim := { program := "ytamkbeibmhkciaadoor", sum := "38d11026f8ef5745be5860fdb8ee8026ae235a5c9f7066ee768c4979bbaa5ae7", func := "arbac/arbaclaw06.OrderReduces", spec := "orderReduces", inPlace := ["internal/abi.NoEscape"], unfollowed := true, recurses := true, named := ["math/bits.deBruijn64tab", "internal/strconv.uint64pow10", "math/bits.deBruijn32tab"], apart := false, laid := [("math/bits.deBruijn32tab", laid_math_bits_deBruijn32tab), ("math/bits.deBruijn64tab", laid_math_bits_deBruijn64tab), ("internal/strconv.uint64pow10", laid_internal_strconv_uint64pow10)], narrowed := true }
def OrderReducesUptoSaid : Prop := orderReducesUptoRow.holds Tryd.pinned (OpenSpec.upto orderReducesSpec)

/-- 'arbaclaw06.OrderChanges', WHERE WHAT IT READS IS OF BULK AT MOST 1048576: true; the input reads as it did. -/
def orderChangesUptoRow : OpenClaim := { program := "ytamkbeibmhkciaadoor", sum := "38d11026f8ef5745be5860fdb8ee8026ae235a5c9f7066ee768c4979bbaa5ae7", func := "arbac/arbaclaw06.OrderChanges", spec := "orderChanges", inPlace := ["internal/abi.NoEscape"], unfollowed := true, recurses := true, named := ["math/bits.deBruijn64tab", "internal/strconv.uint64pow10", "math/bits.deBruijn32tab"], apart := false, laid := [("math/bits.deBruijn32tab", laid_math_bits_deBruijn32tab), ("math/bits.deBruijn64tab", laid_math_bits_deBruijn64tab), ("internal/strconv.uint64pow10", laid_internal_strconv_uint64pow10)], narrowed := true }
def OrderChangesUptoSaid : Prop := orderChangesUptoRow.holds Tryd.pinned (OpenSpec.upto orderChangesSpec)

/-- 'arbaclaw06.OrderNil', WHERE WHAT IT READS IS OF BULK AT MOST 1048576: true; the input reads as it did. -/
def orderNilUptoRow : OpenClaim := { program := "ytamkbeibmhkciaadoor", sum := "38d11026f8ef5745be5860fdb8ee8026ae235a5c9f7066ee768c4979bbaa5ae7", func := "arbac/arbaclaw06.OrderNil", spec := "orderNil", inPlace := ["internal/abi.NoEscape"], unfollowed := true, recurses := true, named := ["math/bits.deBruijn64tab", "internal/strconv.uint64pow10", "math/bits.deBruijn32tab"], apart := false, laid := [("math/bits.deBruijn32tab", laid_math_bits_deBruijn32tab), ("math/bits.deBruijn64tab", laid_math_bits_deBruijn64tab), ("internal/strconv.uint64pow10", laid_internal_strconv_uint64pow10)], narrowed := true }
def OrderNilUptoSaid : Prop := orderNilUptoRow.holds Tryd.pinned (OpenSpec.upto orderNilSpec)

end Rows
end Go.Proofs.YtamkbeibmhkciaaDoor
