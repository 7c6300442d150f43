/-
  NARROWER THAN 'FOR EVERY INPUT', by the rows' own cells (each row's printed sentence says how): KeccakSums: laid · KeccakOrders: laid · KeccakPieces: laid · KeccakCopies: laid · KeccakTexts: laid · KeccakParses: laid · KeccakResets: laid · KeccakNil: laid · KeccakTagged: laid · KeccakParts: laid.
  DERIVED. THE GIVEN ROWS OF THIS SEAT. 10 by the template 'for every input the law returns true; each argument reads behind the call as it read before'; 0 by the template 'total and deterministic' (their statements: YthffkklaodanaaaDoorTotals.lean).
  GIVEN WITH THE SEED: the statements are not yours to turn. If you find one false, say at which input.
  Laid BY PROGRAM, IN A SANDBOX (cutbox-rows.mjs): the forced cells as the released guide's own fill.sh prints them over the translation 390994469cce8c1f… (all of the seat's roots in one cut). By AI agents, Wed Nov 11 2026. No macro, syntax, notation, axiom, sorry.
-/
import Derived.Test.YthffkklaodanaaaDoorChecked
import GoSem.Claim
import GoSem.ClaimJoined
import GoSem.ClaimMapViews
import Derived.JoinedTies
import Derived.KernelRfl
namespace Go.Proofs.YthffkklaodanaaaDoor
/- THE CELL 'sum', in the pinned program and in every row, IS THE sha256 OF THE DUMP (.gsa) THAT YthffkklaodanaaaDoorProg.lean LOADS. Nothing in Lean hashes anything: it is a label: what it is worth is what the hold of that sum in a sandbox is worth. -/
noncomputable def Tryd.pinned : Pinned := { name := "ythffkklaodanaaadoor", sum := "390994469cce8c1f11441e86d3bd72e27c2a49298d9247de8d33bdc298341581", checked := Tryd.checked }
namespace Rows
def none {H : Type} : Left H := { results := [], args := [] }

/- WHAT THE LISTED PACKAGE-LEVEL VARIABLES READ AS WHEN THE CALL BEGINS. Each datum BY PROGRAM (the guide's laid-datum.mjs) off the statement by which the dump's own 'gosem.cut.vars' lays the variable. In a bare row this is a premise. The card (YthffkklaodanaaaDoorCards.lean) ties it to the program's text. -/
def laid_arbac_keccak_rounds {H : Type} : DataW H := .agg [.lit (.int .u64 1), .lit (.int .u64 32898), .lit (.int .u64 9223372036854808714), .lit (.int .u64 9223372039002292224), .lit (.int .u64 32907), .lit (.int .u64 2147483649), .lit (.int .u64 9223372039002292353), .lit (.int .u64 9223372036854808585), .lit (.int .u64 138), .lit (.int .u64 136), .lit (.int .u64 2147516425), .lit (.int .u64 2147483658), .lit (.int .u64 2147516555), .lit (.int .u64 9223372036854775947), .lit (.int .u64 9223372036854808713), .lit (.int .u64 9223372036854808579), .lit (.int .u64 9223372036854808578), .lit (.int .u64 9223372036854775936), .lit (.int .u64 32778), .lit (.int .u64 9223372039002259466), .lit (.int .u64 9223372039002292353), .lit (.int .u64 9223372036854808704), .lit (.int .u64 2147483649), .lit (.int .u64 9223372039002292232)]
def laid_arbac_keccak_turns {H : Type} : DataW H := .agg [.lit (.int .i64 0), .lit (.int .i64 1), .lit (.int .i64 62), .lit (.int .i64 28), .lit (.int .i64 27), .lit (.int .i64 36), .lit (.int .i64 44), .lit (.int .i64 6), .lit (.int .i64 55), .lit (.int .i64 20), .lit (.int .i64 3), .lit (.int .i64 10), .lit (.int .i64 43), .lit (.int .i64 25), .lit (.int .i64 39), .lit (.int .i64 41), .lit (.int .i64 45), .lit (.int .i64 15), .lit (.int .i64 21), .lit (.int .i64 8), .lit (.int .i64 18), .lit (.int .i64 2), .lit (.int .i64 61), .lit (.int .i64 56), .lit (.int .i64 14)]

/-- 'arbaclaw03.KeccakSums': WHATEVER THE INPUT: true; the input reads as it did. -/
def keccakSumsSpec : ChangeSpec := { name := "keccakSums", fn := fun _ => fun
  | [d] => { results := [.lit (.bool true)], args := [d] }
  | _ => none }
def keccakSumsRow : OpenClaim := { program := "ythffkklaodanaaadoor", sum := "390994469cce8c1f11441e86d3bd72e27c2a49298d9247de8d33bdc298341581", func := "arbac/arbaclaw03.KeccakSums", spec := "keccakSums", named := ["arbac/keccak.rounds", "arbac/keccak.turns"], apart := false, laid := [("arbac/keccak.rounds", laid_arbac_keccak_rounds), ("arbac/keccak.turns", laid_arbac_keccak_turns)] }
def KeccakSumsSaid : Prop := keccakSumsRow.holds Tryd.pinned (OpenSpec.ofChange keccakSumsSpec)

/-- ITS FALSE NEIGHBOUR: 'it returns false'. Refute it at one input. -/
def keccakSumsWrong : ChangeSpec := { name := "keccakSums", fn := fun _ => fun
  | [d] => { results := [.lit (.bool false)], args := [d] }
  | _ => none }
def KeccakSumsWrongFalsely : Prop := keccakSumsRow.holds Tryd.pinned (OpenSpec.ofChange keccakSumsWrong)

/-- 'arbaclaw03.KeccakOrders': WHATEVER THE INPUT: true; the input reads as it did. -/
def keccakOrdersSpec : ChangeSpec := { name := "keccakOrders", fn := fun _ => fun
  | [d1, d2] => { results := [.lit (.bool true)], args := [d1, d2] }
  | _ => none }
def keccakOrdersRow : OpenClaim := { program := "ythffkklaodanaaadoor", sum := "390994469cce8c1f11441e86d3bd72e27c2a49298d9247de8d33bdc298341581", func := "arbac/arbaclaw03.KeccakOrders", spec := "keccakOrders", inPlace := ["internal/bytealg.Compare"], named := ["arbac/keccak.rounds", "arbac/keccak.turns"], apart := false, laid := [("arbac/keccak.rounds", laid_arbac_keccak_rounds), ("arbac/keccak.turns", laid_arbac_keccak_turns)] }
def KeccakOrdersSaid : Prop := keccakOrdersRow.holds Tryd.pinned (OpenSpec.ofChange keccakOrdersSpec)

/-- ITS FALSE NEIGHBOUR: 'it returns false'. Refute it at one input. -/
def keccakOrdersWrong : ChangeSpec := { name := "keccakOrders", fn := fun _ => fun
  | [d1, d2] => { results := [.lit (.bool false)], args := [d1, d2] }
  | _ => none }
def KeccakOrdersWrongFalsely : Prop := keccakOrdersRow.holds Tryd.pinned (OpenSpec.ofChange keccakOrdersWrong)

/-- 'arbaclaw03.KeccakPieces': WHATEVER THE INPUT: true; the input reads as it did. -/
def keccakPiecesSpec : ChangeSpec := { name := "keccakPieces", fn := fun _ => fun
  | [d] => { results := [.lit (.bool true)], args := [d] }
  | _ => none }
def keccakPiecesRow : OpenClaim := { program := "ythffkklaodanaaadoor", sum := "390994469cce8c1f11441e86d3bd72e27c2a49298d9247de8d33bdc298341581", func := "arbac/arbaclaw03.KeccakPieces", spec := "keccakPieces", named := ["arbac/keccak.rounds", "arbac/keccak.turns"], apart := false, laid := [("arbac/keccak.rounds", laid_arbac_keccak_rounds), ("arbac/keccak.turns", laid_arbac_keccak_turns)] }
def KeccakPiecesSaid : Prop := keccakPiecesRow.holds Tryd.pinned (OpenSpec.ofChange keccakPiecesSpec)

/-- ITS FALSE NEIGHBOUR: 'it returns false'. Refute it at one input. -/
def keccakPiecesWrong : ChangeSpec := { name := "keccakPieces", fn := fun _ => fun
  | [d] => { results := [.lit (.bool false)], args := [d] }
  | _ => none }
def KeccakPiecesWrongFalsely : Prop := keccakPiecesRow.holds Tryd.pinned (OpenSpec.ofChange keccakPiecesWrong)

/-- 'arbaclaw03.KeccakCopies': WHATEVER THE INPUT: true; the input reads as it did. -/
def keccakCopiesSpec : ChangeSpec := { name := "keccakCopies", fn := fun _ => fun
  | [d1, d2, d3] => { results := [.lit (.bool true)], args := [d1, d2, d3] }
  | _ => none }
def keccakCopiesRow : OpenClaim := { program := "ythffkklaodanaaadoor", sum := "390994469cce8c1f11441e86d3bd72e27c2a49298d9247de8d33bdc298341581", func := "arbac/arbaclaw03.KeccakCopies", spec := "keccakCopies", named := ["arbac/keccak.rounds", "arbac/keccak.turns"], apart := false, laid := [("arbac/keccak.rounds", laid_arbac_keccak_rounds), ("arbac/keccak.turns", laid_arbac_keccak_turns)] }
def KeccakCopiesSaid : Prop := keccakCopiesRow.holds Tryd.pinned (OpenSpec.ofChange keccakCopiesSpec)

/-- ITS FALSE NEIGHBOUR: 'it returns false'. Refute it at one input. -/
def keccakCopiesWrong : ChangeSpec := { name := "keccakCopies", fn := fun _ => fun
  | [d1, d2, d3] => { results := [.lit (.bool false)], args := [d1, d2, d3] }
  | _ => none }
def KeccakCopiesWrongFalsely : Prop := keccakCopiesRow.holds Tryd.pinned (OpenSpec.ofChange keccakCopiesWrong)

/-- 'arbaclaw03.KeccakTexts': WHATEVER THE INPUT: true; the input reads as it did. -/
def keccakTextsSpec : ChangeSpec := { name := "keccakTexts", fn := fun _ => fun
  | [d] => { results := [.lit (.bool true)], args := [d] }
  | _ => none }
def keccakTextsRow : OpenClaim := { program := "ythffkklaodanaaadoor", sum := "390994469cce8c1f11441e86d3bd72e27c2a49298d9247de8d33bdc298341581", func := "arbac/arbaclaw03.KeccakTexts", spec := "keccakTexts", inPlace := ["internal/bytealg.IndexByte"], named := ["arbac/keccak.rounds", "arbac/keccak.turns"], apart := false, laid := [("arbac/keccak.rounds", laid_arbac_keccak_rounds), ("arbac/keccak.turns", laid_arbac_keccak_turns)] }
def KeccakTextsSaid : Prop := keccakTextsRow.holds Tryd.pinned (OpenSpec.ofChange keccakTextsSpec)

/-- ITS FALSE NEIGHBOUR: 'it returns false'. Refute it at one input. -/
def keccakTextsWrong : ChangeSpec := { name := "keccakTexts", fn := fun _ => fun
  | [d] => { results := [.lit (.bool false)], args := [d] }
  | _ => none }
def KeccakTextsWrongFalsely : Prop := keccakTextsRow.holds Tryd.pinned (OpenSpec.ofChange keccakTextsWrong)

/-- 'arbaclaw03.KeccakParses': WHATEVER THE INPUT: true; the input reads as it did. -/
def keccakParsesSpec : ChangeSpec := { name := "keccakParses", fn := fun _ => fun
  | [d] => { results := [.lit (.bool true)], args := [d] }
  | _ => none }
def keccakParsesRow : OpenClaim := { program := "ythffkklaodanaaadoor", sum := "390994469cce8c1f11441e86d3bd72e27c2a49298d9247de8d33bdc298341581", func := "arbac/arbaclaw03.KeccakParses", spec := "keccakParses", inPlace := ["internal/bytealg.IndexByte"], named := ["arbac/keccak.rounds", "arbac/keccak.turns"], apart := false, laid := [("arbac/keccak.rounds", laid_arbac_keccak_rounds), ("arbac/keccak.turns", laid_arbac_keccak_turns)] }
def KeccakParsesSaid : Prop := keccakParsesRow.holds Tryd.pinned (OpenSpec.ofChange keccakParsesSpec)

/-- ITS FALSE NEIGHBOUR: 'it returns false'. Refute it at one input. -/
def keccakParsesWrong : ChangeSpec := { name := "keccakParses", fn := fun _ => fun
  | [d] => { results := [.lit (.bool false)], args := [d] }
  | _ => none }
def KeccakParsesWrongFalsely : Prop := keccakParsesRow.holds Tryd.pinned (OpenSpec.ofChange keccakParsesWrong)

/-- 'arbaclaw03.KeccakResets': WHATEVER THE INPUT: true; the input reads as it did. -/
def keccakResetsSpec : ChangeSpec := { name := "keccakResets", fn := fun _ => fun
  | [d1, d2] => { results := [.lit (.bool true)], args := [d1, d2] }
  | _ => none }
def keccakResetsRow : OpenClaim := { program := "ythffkklaodanaaadoor", sum := "390994469cce8c1f11441e86d3bd72e27c2a49298d9247de8d33bdc298341581", func := "arbac/arbaclaw03.KeccakResets", spec := "keccakResets", named := ["arbac/keccak.rounds", "arbac/keccak.turns"], apart := false, laid := [("arbac/keccak.rounds", laid_arbac_keccak_rounds), ("arbac/keccak.turns", laid_arbac_keccak_turns)] }
def KeccakResetsSaid : Prop := keccakResetsRow.holds Tryd.pinned (OpenSpec.ofChange keccakResetsSpec)

/-- ITS FALSE NEIGHBOUR: 'it returns false'. Refute it at one input. -/
def keccakResetsWrong : ChangeSpec := { name := "keccakResets", fn := fun _ => fun
  | [d1, d2] => { results := [.lit (.bool false)], args := [d1, d2] }
  | _ => none }
def KeccakResetsWrongFalsely : Prop := keccakResetsRow.holds Tryd.pinned (OpenSpec.ofChange keccakResetsWrong)

/-- 'arbaclaw03.KeccakNil': WHATEVER THE INPUT: true; the input reads as it did. -/
def keccakNilSpec : ChangeSpec := { name := "keccakNil", fn := fun _ => fun
  | [d] => { results := [.lit (.bool true)], args := [d] }
  | _ => none }
def keccakNilRow : OpenClaim := { program := "ythffkklaodanaaadoor", sum := "390994469cce8c1f11441e86d3bd72e27c2a49298d9247de8d33bdc298341581", func := "arbac/arbaclaw03.KeccakNil", spec := "keccakNil", named := ["arbac/keccak.rounds", "arbac/keccak.turns"], apart := false, laid := [("arbac/keccak.rounds", laid_arbac_keccak_rounds), ("arbac/keccak.turns", laid_arbac_keccak_turns)] }
def KeccakNilSaid : Prop := keccakNilRow.holds Tryd.pinned (OpenSpec.ofChange keccakNilSpec)

/-- ITS FALSE NEIGHBOUR: 'it returns false'. Refute it at one input. -/
def keccakNilWrong : ChangeSpec := { name := "keccakNil", fn := fun _ => fun
  | [d] => { results := [.lit (.bool false)], args := [d] }
  | _ => none }
def KeccakNilWrongFalsely : Prop := keccakNilRow.holds Tryd.pinned (OpenSpec.ofChange keccakNilWrong)

/-- 'arbaclaw03.KeccakTagged': WHATEVER THE INPUT: true; the input reads as it did. -/
def keccakTaggedSpec : ChangeSpec := { name := "keccakTagged", fn := fun _ => fun
  | [d1, d2] => { results := [.lit (.bool true)], args := [d1, d2] }
  | _ => none }
def keccakTaggedRow : OpenClaim := { program := "ythffkklaodanaaadoor", sum := "390994469cce8c1f11441e86d3bd72e27c2a49298d9247de8d33bdc298341581", func := "arbac/arbaclaw03.KeccakTagged", spec := "keccakTagged", named := ["arbac/keccak.rounds", "arbac/keccak.turns"], apart := false, laid := [("arbac/keccak.rounds", laid_arbac_keccak_rounds), ("arbac/keccak.turns", laid_arbac_keccak_turns)] }
def KeccakTaggedSaid : Prop := keccakTaggedRow.holds Tryd.pinned (OpenSpec.ofChange keccakTaggedSpec)

/-- ITS FALSE NEIGHBOUR: 'it returns false'. Refute it at one input. -/
def keccakTaggedWrong : ChangeSpec := { name := "keccakTagged", fn := fun _ => fun
  | [d1, d2] => { results := [.lit (.bool false)], args := [d1, d2] }
  | _ => none }
def KeccakTaggedWrongFalsely : Prop := keccakTaggedRow.holds Tryd.pinned (OpenSpec.ofChange keccakTaggedWrong)

/-- 'arbaclaw03.KeccakParts': WHATEVER THE INPUT: true; the input reads as it did. -/
def keccakPartsSpec : ChangeSpec := { name := "keccakParts", fn := fun _ => fun
  | [d1, d2, d3] => { results := [.lit (.bool true)], args := [d1, d2, d3] }
  | _ => none }
def keccakPartsRow : OpenClaim := { program := "ythffkklaodanaaadoor", sum := "390994469cce8c1f11441e86d3bd72e27c2a49298d9247de8d33bdc298341581", func := "arbac/arbaclaw03.KeccakParts", spec := "keccakParts", named := ["arbac/keccak.rounds", "arbac/keccak.turns"], apart := false, laid := [("arbac/keccak.rounds", laid_arbac_keccak_rounds), ("arbac/keccak.turns", laid_arbac_keccak_turns)] }
def KeccakPartsSaid : Prop := keccakPartsRow.holds Tryd.pinned (OpenSpec.ofChange keccakPartsSpec)

/-- ITS FALSE NEIGHBOUR: 'it returns false'. Refute it at one input. -/
def keccakPartsWrong : ChangeSpec := { name := "keccakParts", fn := fun _ => fun
  | [d1, d2, d3] => { results := [.lit (.bool false)], args := [d1, d2, d3] }
  | _ => none }
def KeccakPartsWrongFalsely : Prop := keccakPartsRow.holds Tryd.pinned (OpenSpec.ofChange keccakPartsWrong)

/- THE SECOND FORM. 'bulk': how many values and letters a reading holds, each counted each time it is reached (what is shared counts as often as it is met; a slice's spare places count too). A statement '..UptoSaid' is the law's where the arguments, and the package variables that the reading takes, are together of bulk at most 1048576: NARROWER than '..Said'. Prove '..Said' where nothing that the law and all that it calls make is longer than what came in: it says more and counts as full. Else prove '..UptoSaid'. A law counts once. -/
mutual
def uptoBulk {H : Type} : DataW H → Nat
  | .lit (.string bytes) => bytes.length + 1
  | .lit _ => 1
  | .nil => 1
  | .ptr d => uptoBulk d + 1
  | .slice elems spare => uptoBulkAll elems + uptoBulkAll spare + 1
  | .agg parts => uptoBulkAll parts + 1
  | .iface _ d => uptoBulk d + 1
  | .map entries => uptoBulkEntries entries + 1
  | .held _ => 1
def uptoBulkAll {H : Type} : List (DataW H) → Nat
  | [] => 0
  | d :: r => uptoBulk d + uptoBulkAll r
def uptoBulkEntries {H : Type} : List (Lit × DataW H) → Nat
  | [] => 0
  | x :: r => uptoBulkEntry x + uptoBulkEntries r
def uptoBulkEntry {H : Type} : Lit × DataW H → Nat
  | (.string bytes, d) => bytes.length + uptoBulk d + 1
  | (_, d) => uptoBulk d + 1
 end
def uptoSmall : (H : Type) → List (DataW H) → Bool := fun _ ds => decide (uptoBulkAll ds ≤ 1048576)
def OpenSpec.upto (s : _root_.Go.ChangeSpec) : _root_.Go.OpenSpec := { _root_.Go.OpenSpec.ofChange s with cond := some uptoSmall }

/-- 'arbaclaw03.KeccakSums', WHERE WHAT IT READS IS OF BULK AT MOST 1048576: true; the input reads as it did. -/
def keccakSumsUptoRow : OpenClaim := { program := "ythffkklaodanaaadoor", sum := "390994469cce8c1f11441e86d3bd72e27c2a49298d9247de8d33bdc298341581", func := "arbac/arbaclaw03.KeccakSums", spec := "keccakSums", named := ["arbac/keccak.rounds", "arbac/keccak.turns"], apart := false, laid := [("arbac/keccak.rounds", laid_arbac_keccak_rounds), ("arbac/keccak.turns", laid_arbac_keccak_turns)], narrowed := true }
def KeccakSumsUptoSaid : Prop := keccakSumsUptoRow.holds Tryd.pinned (OpenSpec.upto keccakSumsSpec)

/-- 'arbaclaw03.KeccakOrders', WHERE WHAT IT READS IS OF BULK AT MOST 1048576: true; the input reads as it did. -/
def keccakOrdersUptoRow : OpenClaim := { program := "ythffkklaodanaaadoor", sum := "390994469cce8c1f11441e86d3bd72e27c2a49298d9247de8d33bdc298341581", func := "arbac/arbaclaw03.KeccakOrders", spec := "keccakOrders", inPlace := ["internal/bytealg.Compare"], named := ["arbac/keccak.rounds", "arbac/keccak.turns"], apart := false, laid := [("arbac/keccak.rounds", laid_arbac_keccak_rounds), ("arbac/keccak.turns", laid_arbac_keccak_turns)], narrowed := true }
def KeccakOrdersUptoSaid : Prop := keccakOrdersUptoRow.holds Tryd.pinned (OpenSpec.upto keccakOrdersSpec)

/-- 'arbaclaw03.KeccakPieces', WHERE WHAT IT READS IS OF BULK AT MOST 1048576: true; the input reads as it did. -/
def keccakPiecesUptoRow : OpenClaim := { program := "ythffkklaodanaaadoor", sum := "390994469cce8c1f11441e86d3bd72e27c2a49298d9247de8d33bdc298341581", func := "arbac/arbaclaw03.KeccakPieces", spec := "keccakPieces", named := ["arbac/keccak.rounds", "arbac/keccak.turns"], apart := false, laid := [("arbac/keccak.rounds", laid_arbac_keccak_rounds), ("arbac/keccak.turns", laid_arbac_keccak_turns)], narrowed := true }
def KeccakPiecesUptoSaid : Prop := keccakPiecesUptoRow.holds Tryd.pinned (OpenSpec.upto keccakPiecesSpec)

/-- 'arbaclaw03.KeccakCopies', WHERE WHAT IT READS IS OF BULK AT MOST 1048576: true; the input reads as it did. -/
def keccakCopiesUptoRow : OpenClaim := { program := "ythffkklaodanaaadoor", sum := "390994469cce8c1f11441e86d3bd72e27c2a49298d9247de8d33bdc298341581", func := "arbac/arbaclaw03.KeccakCopies", spec := "keccakCopies", named := ["arbac/keccak.rounds", "arbac/keccak.turns"], apart := false, laid := [("arbac/keccak.rounds", laid_arbac_keccak_rounds), ("arbac/keccak.turns", laid_arbac_keccak_turns)], narrowed := true }
def KeccakCopiesUptoSaid : Prop := keccakCopiesUptoRow.holds Tryd.pinned (OpenSpec.upto keccakCopiesSpec)

/-- 'arbaclaw03.KeccakTexts', WHERE WHAT IT READS IS OF BULK AT MOST 1048576: true; the input reads as it did. -/
def keccakTextsUptoRow : OpenClaim := { program := "ythffkklaodanaaadoor", sum := "390994469cce8c1f11441e86d3bd72e27c2a49298d9247de8d33bdc298341581", func := "arbac/arbaclaw03.KeccakTexts", spec := "keccakTexts", inPlace := ["internal/bytealg.IndexByte"], named := ["arbac/keccak.rounds", "arbac/keccak.turns"], apart := false, laid := [("arbac/keccak.rounds", laid_arbac_keccak_rounds), ("arbac/keccak.turns", laid_arbac_keccak_turns)], narrowed := true }
def KeccakTextsUptoSaid : Prop := keccakTextsUptoRow.holds Tryd.pinned (OpenSpec.upto keccakTextsSpec)

/-- 'arbaclaw03.KeccakParses', WHERE WHAT IT READS IS OF BULK AT MOST 1048576: true; the input reads as it did. -/
def keccakParsesUptoRow : OpenClaim := { program := "ythffkklaodanaaadoor", sum := "390994469cce8c1f11441e86d3bd72e27c2a49298d9247de8d33bdc298341581", func := "arbac/arbaclaw03.KeccakParses", spec := "keccakParses", inPlace := ["internal/bytealg.IndexByte"], named := ["arbac/keccak.rounds", "arbac/keccak.turns"], apart := false, laid := [("arbac/keccak.rounds", laid_arbac_keccak_rounds), ("arbac/keccak.turns", laid_arbac_keccak_turns)], narrowed := true }
def KeccakParsesUptoSaid : Prop := keccakParsesUptoRow.holds Tryd.pinned (OpenSpec.upto keccakParsesSpec)

/-- 'arbaclaw03.KeccakResets', WHERE WHAT IT READS IS OF BULK AT MOST 1048576: true; the input reads as it did. -/
def keccakResetsUptoRow : OpenClaim := { program := "ythffkklaodanaaadoor", sum := "390994469cce8c1f11441e86d3bd72e27c2a49298d9247de8d33bdc298341581", func := "arbac/arbaclaw03.KeccakResets", spec := "keccakResets", named := ["arbac/keccak.rounds", "arbac/keccak.turns"], apart := false, laid := [("arbac/keccak.rounds", laid_arbac_keccak_rounds), ("arbac/keccak.turns", laid_arbac_keccak_turns)], narrowed := true }
def KeccakResetsUptoSaid : Prop := keccakResetsUptoRow.holds Tryd.pinned (OpenSpec.upto keccakResetsSpec)

/-- 'arbaclaw03.KeccakNil', WHERE WHAT IT READS IS OF BULK AT MOST 1048576: true; the input reads as it did. -/
def keccakNilUptoRow : OpenClaim := { program := "ythffkklaodanaaadoor", sum := "390994469cce8c1f11441e86d3bd72e27c2a49298d9247de8d33bdc298341581", func := "arbac/arbaclaw03.KeccakNil", spec := "keccakNil", named := ["arbac/keccak.rounds", "arbac/keccak.turns"], apart := false, laid := [("arbac/keccak.rounds", laid_arbac_keccak_rounds), ("arbac/keccak.turns", laid_arbac_keccak_turns)], narrowed := true }
def KeccakNilUptoSaid : Prop := keccakNilUptoRow.holds Tryd.pinned (OpenSpec.upto keccakNilSpec)

/-- 'arbaclaw03.KeccakTagged', WHERE WHAT IT READS IS OF BULK AT MOST 1048576: true; the input reads as it did. -/
def keccakTaggedUptoRow : OpenClaim := { program := "ythffkklaodanaaadoor", sum := "390994469cce8c1f11441e86d3bd72e27c2a49298d9247de8d33bdc298341581", func := "arbac/arbaclaw03.KeccakTagged", spec := "keccakTagged", named := ["arbac/keccak.rounds", "arbac/keccak.turns"], apart := false, laid := [("arbac/keccak.rounds", laid_arbac_keccak_rounds), ("arbac/keccak.turns", laid_arbac_keccak_turns)], narrowed := true }
def KeccakTaggedUptoSaid : Prop := keccakTaggedUptoRow.holds Tryd.pinned (OpenSpec.upto keccakTaggedSpec)

/-- 'arbaclaw03.KeccakParts', WHERE WHAT IT READS IS OF BULK AT MOST 1048576: true; the input reads as it did. -/
def keccakPartsUptoRow : OpenClaim := { program := "ythffkklaodanaaadoor", sum := "390994469cce8c1f11441e86d3bd72e27c2a49298d9247de8d33bdc298341581", func := "arbac/arbaclaw03.KeccakParts", spec := "keccakParts", named := ["arbac/keccak.rounds", "arbac/keccak.turns"], apart := false, laid := [("arbac/keccak.rounds", laid_arbac_keccak_rounds), ("arbac/keccak.turns", laid_arbac_keccak_turns)], narrowed := true }
def KeccakPartsUptoSaid : Prop := keccakPartsUptoRow.holds Tryd.pinned (OpenSpec.upto keccakPartsSpec)

end Rows
end Go.Proofs.YthffkklaodanaaaDoor
