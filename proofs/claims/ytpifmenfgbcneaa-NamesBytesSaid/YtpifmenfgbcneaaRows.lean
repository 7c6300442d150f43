/-
  No cell of these rows narrows 'for every input' (looked for: loops, veiled, ifaces, maps, wideKeys, modest, calm, conditions, laid).
  DERIVED. THE GIVEN ROWS OF THIS SEAT. 9 by the template 'for every input the law returns true; each argument reads behind the call as it read before'; 0 by the template 'total and deterministic' (their statements: YtpifmenfgbcneaaTotals.lean).
  GIVEN WITH THE SEED: the statements are not yours to turn. If you find one false, say at which input.
  Laid BY PROGRAM, IN A SANDBOX (cutbox-rows.mjs): the forced cells as the released guide's own fill.sh prints them over the translation 574924e75e24c965… (all of the seat's roots in one cut). By AI agents, Wed Nov 11 2026. No macro, syntax, notation, axiom, sorry.
-/
import Derived.Test.YtpifmenfgbcneaaChecked
import GoSem.Claim
import GoSem.ClaimJoined
import GoSem.ClaimMapViews
import Derived.JoinedTies
import Derived.KernelRfl
namespace Go.Proofs.Ytpifmenfgbcneaa
/- THE CELL 'sum', in the pinned program and in every row, IS THE sha256 OF THE DUMP (.gsa) THAT YtpifmenfgbcneaaProg.lean LOADS. Nothing in Lean hashes anything: it is a label: what it is worth is what the hold of that sum in a sandbox is worth. -/
noncomputable def Try.pinned : Pinned := { name := "ytpifmenfgbcneaa", sum := "574924e75e24c965e3948d4e2155cc8ac9034cdc55f9e96f328b98725b462625", checked := Try.checked }
namespace Rows
def none {H : Type} : Left H := { results := [], args := [] }

/-- 'arbaclaw08.NamesValid': WHATEVER THE INPUT: true; the input reads as it did. -/
def namesValidSpec : ChangeSpec := { name := "namesValid", fn := fun _ => fun
  | [d1, d2] => { results := [.lit (.bool true)], args := [d1, d2] }
  | _ => none }
def namesValidRow : OpenClaim := { program := "ytpifmenfgbcneaa", sum := "574924e75e24c965e3948d4e2155cc8ac9034cdc55f9e96f328b98725b462625", func := "arbac/arbaclaw08.NamesValid", spec := "namesValid", inPlace := ["maps.clone"], unfollowed := true, recurses := true, apart := false }
def NamesValidSaid : Prop := namesValidRow.holds Try.pinned (OpenSpec.ofChange namesValidSpec)

/-- ITS FALSE NEIGHBOUR: 'it returns false'. Refute it at one input. -/
def namesValidWrong : ChangeSpec := { name := "namesValid", fn := fun _ => fun
  | [d1, d2] => { results := [.lit (.bool false)], args := [d1, d2] }
  | _ => none }
def NamesValidWrongFalsely : Prop := namesValidRow.holds Try.pinned (OpenSpec.ofChange namesValidWrong)

/-- 'arbaclaw08.NamesKeywords': WHATEVER THE INPUT: true; the input reads as it did. -/
def namesKeywordsSpec : ChangeSpec := { name := "namesKeywords", fn := fun _ => fun
  | [d] => { results := [.lit (.bool true)], args := [d] }
  | _ => none }
def namesKeywordsRow : OpenClaim := { program := "ytpifmenfgbcneaa", sum := "574924e75e24c965e3948d4e2155cc8ac9034cdc55f9e96f328b98725b462625", func := "arbac/arbaclaw08.NamesKeywords", spec := "namesKeywords", inPlace := ["maps.clone"], unfollowed := true, recurses := true, apart := false }
def NamesKeywordsSaid : Prop := namesKeywordsRow.holds Try.pinned (OpenSpec.ofChange namesKeywordsSpec)

/-- ITS FALSE NEIGHBOUR: 'it returns false'. Refute it at one input. -/
def namesKeywordsWrong : ChangeSpec := { name := "namesKeywords", fn := fun _ => fun
  | [d] => { results := [.lit (.bool false)], args := [d] }
  | _ => none }
def NamesKeywordsWrongFalsely : Prop := namesKeywordsRow.holds Try.pinned (OpenSpec.ofChange namesKeywordsWrong)

/-- 'arbaclaw08.NamesAdds': WHATEVER THE INPUT: true; the input reads as it did. -/
def namesAddsSpec : ChangeSpec := { name := "namesAdds", fn := fun _ => fun
  | [d1, d2] => { results := [.lit (.bool true)], args := [d1, d2] }
  | _ => none }
def namesAddsRow : OpenClaim := { program := "ytpifmenfgbcneaa", sum := "574924e75e24c965e3948d4e2155cc8ac9034cdc55f9e96f328b98725b462625", func := "arbac/arbaclaw08.NamesAdds", spec := "namesAdds", inPlace := ["maps.clone"], unfollowed := true, recurses := true, apart := false }
def NamesAddsSaid : Prop := namesAddsRow.holds Try.pinned (OpenSpec.ofChange namesAddsSpec)

/-- ITS FALSE NEIGHBOUR: 'it returns false'. Refute it at one input. -/
def namesAddsWrong : ChangeSpec := { name := "namesAdds", fn := fun _ => fun
  | [d1, d2] => { results := [.lit (.bool false)], args := [d1, d2] }
  | _ => none }
def NamesAddsWrongFalsely : Prop := namesAddsRow.holds Try.pinned (OpenSpec.ofChange namesAddsWrong)

/-- 'arbaclaw08.NamesOf': WHATEVER THE INPUT: true; the input reads as it did. -/
def namesOfSpec : ChangeSpec := { name := "namesOf", fn := fun _ => fun
  | [d1, d2] => { results := [.lit (.bool true)], args := [d1, d2] }
  | _ => none }
def namesOfRow : OpenClaim := { program := "ytpifmenfgbcneaa", sum := "574924e75e24c965e3948d4e2155cc8ac9034cdc55f9e96f328b98725b462625", func := "arbac/arbaclaw08.NamesOf", spec := "namesOf", inPlace := ["maps.clone"], unfollowed := true, recurses := true, apart := false }
def NamesOfSaid : Prop := namesOfRow.holds Try.pinned (OpenSpec.ofChange namesOfSpec)

/-- ITS FALSE NEIGHBOUR: 'it returns false'. Refute it at one input. -/
def namesOfWrong : ChangeSpec := { name := "namesOf", fn := fun _ => fun
  | [d1, d2] => { results := [.lit (.bool false)], args := [d1, d2] }
  | _ => none }
def NamesOfWrongFalsely : Prop := namesOfRow.holds Try.pinned (OpenSpec.ofChange namesOfWrong)

/-- 'arbaclaw08.NamesFinds': WHATEVER THE INPUT: true; the input reads as it did. -/
def namesFindsSpec : ChangeSpec := { name := "namesFinds", fn := fun _ => fun
  | [d1, d2, d3] => { results := [.lit (.bool true)], args := [d1, d2, d3] }
  | _ => none }
def namesFindsRow : OpenClaim := { program := "ytpifmenfgbcneaa", sum := "574924e75e24c965e3948d4e2155cc8ac9034cdc55f9e96f328b98725b462625", func := "arbac/arbaclaw08.NamesFinds", spec := "namesFinds", inPlace := ["maps.clone"], unfollowed := true, recurses := true, apart := false }
def NamesFindsSaid : Prop := namesFindsRow.holds Try.pinned (OpenSpec.ofChange namesFindsSpec)

/-- ITS FALSE NEIGHBOUR: 'it returns false'. Refute it at one input. -/
def namesFindsWrong : ChangeSpec := { name := "namesFinds", fn := fun _ => fun
  | [d1, d2, d3] => { results := [.lit (.bool false)], args := [d1, d2, d3] }
  | _ => none }
def NamesFindsWrongFalsely : Prop := namesFindsRow.holds Try.pinned (OpenSpec.ofChange namesFindsWrong)

/-- 'arbaclaw08.NamesEquals': WHATEVER THE INPUT: true; the input reads as it did. -/
def namesEqualsSpec : ChangeSpec := { name := "namesEquals", fn := fun _ => fun
  | [d1, d2] => { results := [.lit (.bool true)], args := [d1, d2] }
  | _ => none }
def namesEqualsRow : OpenClaim := { program := "ytpifmenfgbcneaa", sum := "574924e75e24c965e3948d4e2155cc8ac9034cdc55f9e96f328b98725b462625", func := "arbac/arbaclaw08.NamesEquals", spec := "namesEquals", inPlace := ["maps.clone"], unfollowed := true, recurses := true, apart := false }
def NamesEqualsSaid : Prop := namesEqualsRow.holds Try.pinned (OpenSpec.ofChange namesEqualsSpec)

/-- ITS FALSE NEIGHBOUR: 'it returns false'. Refute it at one input. -/
def namesEqualsWrong : ChangeSpec := { name := "namesEquals", fn := fun _ => fun
  | [d1, d2] => { results := [.lit (.bool false)], args := [d1, d2] }
  | _ => none }
def NamesEqualsWrongFalsely : Prop := namesEqualsRow.holds Try.pinned (OpenSpec.ofChange namesEqualsWrong)

/-- 'arbaclaw08.NamesNil': WHATEVER THE INPUT: true; the input reads as it did. -/
def namesNilSpec : ChangeSpec := { name := "namesNil", fn := fun _ => fun
  | [d1, d2] => { results := [.lit (.bool true)], args := [d1, d2] }
  | _ => none }
def namesNilRow : OpenClaim := { program := "ytpifmenfgbcneaa", sum := "574924e75e24c965e3948d4e2155cc8ac9034cdc55f9e96f328b98725b462625", func := "arbac/arbaclaw08.NamesNil", spec := "namesNil", inPlace := ["maps.clone"], unfollowed := true, recurses := true, apart := false }
def NamesNilSaid : Prop := namesNilRow.holds Try.pinned (OpenSpec.ofChange namesNilSpec)

/-- ITS FALSE NEIGHBOUR: 'it returns false'. Refute it at one input. -/
def namesNilWrong : ChangeSpec := { name := "namesNil", fn := fun _ => fun
  | [d1, d2] => { results := [.lit (.bool false)], args := [d1, d2] }
  | _ => none }
def NamesNilWrongFalsely : Prop := namesNilRow.holds Try.pinned (OpenSpec.ofChange namesNilWrong)

/-- 'arbaclaw08.NamesReads': WHATEVER THE INPUT: true; the input reads as it did. -/
def namesReadsSpec : ChangeSpec := { name := "namesReads", fn := fun _ => fun
  | [d1, d2] => { results := [.lit (.bool true)], args := [d1, d2] }
  | _ => none }
def namesReadsRow : OpenClaim := { program := "ytpifmenfgbcneaa", sum := "574924e75e24c965e3948d4e2155cc8ac9034cdc55f9e96f328b98725b462625", func := "arbac/arbaclaw08.NamesReads", spec := "namesReads", inPlace := ["maps.clone"], unfollowed := true, recurses := true, apart := false }
def NamesReadsSaid : Prop := namesReadsRow.holds Try.pinned (OpenSpec.ofChange namesReadsSpec)

/-- ITS FALSE NEIGHBOUR: 'it returns false'. Refute it at one input. -/
def namesReadsWrong : ChangeSpec := { name := "namesReads", fn := fun _ => fun
  | [d1, d2] => { results := [.lit (.bool false)], args := [d1, d2] }
  | _ => none }
def NamesReadsWrongFalsely : Prop := namesReadsRow.holds Try.pinned (OpenSpec.ofChange namesReadsWrong)

/-- 'arbaclaw08.NamesBytes': WHATEVER THE INPUT: true; the input reads as it did. -/
def namesBytesSpec : ChangeSpec := { name := "namesBytes", fn := fun _ => fun
  | [d] => { results := [.lit (.bool true)], args := [d] }
  | _ => none }
def namesBytesRow : OpenClaim := { program := "ytpifmenfgbcneaa", sum := "574924e75e24c965e3948d4e2155cc8ac9034cdc55f9e96f328b98725b462625", func := "arbac/arbaclaw08.NamesBytes", spec := "namesBytes", inPlace := ["maps.clone"], unfollowed := true, recurses := true, apart := false }
def NamesBytesSaid : Prop := namesBytesRow.holds Try.pinned (OpenSpec.ofChange namesBytesSpec)

/-- ITS FALSE NEIGHBOUR: 'it returns false'. Refute it at one input. -/
def namesBytesWrong : ChangeSpec := { name := "namesBytes", fn := fun _ => fun
  | [d] => { results := [.lit (.bool false)], args := [d] }
  | _ => none }
def NamesBytesWrongFalsely : Prop := namesBytesRow.holds Try.pinned (OpenSpec.ofChange namesBytesWrong)

/- THE SECOND FORM. 'bulk': how many values and letters a reading holds, each counted each time it is reached (what is shared counts as often as it is met; a slice's spare places count too). A statement '..UptoSaid' is the law's where the arguments, and the package variables that the reading takes, are together of bulk at most 1048576: NARROWER than '..Said'. Prove '..Said' where nothing that the law and all that it calls make is longer than what came in: it says more and counts as full. Else prove '..UptoSaid'. A law counts once. -/
mutual
def uptoBulk {H : Type} : DataW H → Nat
  | .lit (.string bytes) => bytes.length + 1
  | .lit _ => 1
  | .nil => 1
  | .ptr d => uptoBulk d + 1
  | .slice elems spare => uptoBulkAll elems + uptoBulkAll spare + 1
  | .agg parts => uptoBulkAll parts + 1
  | .iface _ d => uptoBulk d + 1
  | .map entries => uptoBulkEntries entries + 1
  | .held _ => 1
def uptoBulkAll {H : Type} : List (DataW H) → Nat
  | [] => 0
  | d :: r => uptoBulk d + uptoBulkAll r
def uptoBulkEntries {H : Type} : List (Lit × DataW H) → Nat
  | [] => 0
  | x :: r => uptoBulkEntry x + uptoBulkEntries r
def uptoBulkEntry {H : Type} : Lit × DataW H → Nat
  | (.string bytes, d) => bytes.length + uptoBulk d + 1
  | (_, d) => uptoBulk d + 1
 end
def uptoSmall : (H : Type) → List (DataW H) → Bool := fun _ ds => decide (uptoBulkAll ds ≤ 1048576)
def OpenSpec.upto (s : _root_.Go.ChangeSpec) : _root_.Go.OpenSpec := { _root_.Go.OpenSpec.ofChange s with cond := some uptoSmall }

/-- 'arbaclaw08.NamesValid', WHERE WHAT IT READS IS OF BULK AT MOST 1048576: true; the input reads as it did. -/
def namesValidUptoRow : OpenClaim := { program := "ytpifmenfgbcneaa", sum := "574924e75e24c965e3948d4e2155cc8ac9034cdc55f9e96f328b98725b462625", func := "arbac/arbaclaw08.NamesValid", spec := "namesValid", inPlace := ["maps.clone"], unfollowed := true, recurses := true, apart := false, narrowed := true }
def NamesValidUptoSaid : Prop := namesValidUptoRow.holds Try.pinned (OpenSpec.upto namesValidSpec)

/-- 'arbaclaw08.NamesKeywords', WHERE WHAT IT READS IS OF BULK AT MOST 1048576: true; the input reads as it did. -/
def namesKeywordsUptoRow : OpenClaim := { program := "ytpifmenfgbcneaa", sum := "574924e75e24c965e3948d4e2155cc8ac9034cdc55f9e96f328b98725b462625", func := "arbac/arbaclaw08.NamesKeywords", spec := "namesKeywords", inPlace := ["maps.clone"], unfollowed := true, recurses := true, apart := false, narrowed := true }
def NamesKeywordsUptoSaid : Prop := namesKeywordsUptoRow.holds Try.pinned (OpenSpec.upto namesKeywordsSpec)

/-- 'arbaclaw08.NamesAdds', WHERE WHAT IT READS IS OF BULK AT MOST 1048576: true; the input reads as it did. -/
def namesAddsUptoRow : OpenClaim := { program := "ytpifmenfgbcneaa", sum := "574924e75e24c965e3948d4e2155cc8ac9034cdc55f9e96f328b98725b462625", func := "arbac/arbaclaw08.NamesAdds", spec := "namesAdds", inPlace := ["maps.clone"], unfollowed := true, recurses := true, apart := false, narrowed := true }
def NamesAddsUptoSaid : Prop := namesAddsUptoRow.holds Try.pinned (OpenSpec.upto namesAddsSpec)

/-- 'arbaclaw08.NamesOf', WHERE WHAT IT READS IS OF BULK AT MOST 1048576: true; the input reads as it did. -/
def namesOfUptoRow : OpenClaim := { program := "ytpifmenfgbcneaa", sum := "574924e75e24c965e3948d4e2155cc8ac9034cdc55f9e96f328b98725b462625", func := "arbac/arbaclaw08.NamesOf", spec := "namesOf", inPlace := ["maps.clone"], unfollowed := true, recurses := true, apart := false, narrowed := true }
def NamesOfUptoSaid : Prop := namesOfUptoRow.holds Try.pinned (OpenSpec.upto namesOfSpec)

/-- 'arbaclaw08.NamesFinds', WHERE WHAT IT READS IS OF BULK AT MOST 1048576: true; the input reads as it did. -/
def namesFindsUptoRow : OpenClaim := { program := "ytpifmenfgbcneaa", sum := "574924e75e24c965e3948d4e2155cc8ac9034cdc55f9e96f328b98725b462625", func := "arbac/arbaclaw08.NamesFinds", spec := "namesFinds", inPlace := ["maps.clone"], unfollowed := true, recurses := true, apart := false, narrowed := true }
def NamesFindsUptoSaid : Prop := namesFindsUptoRow.holds Try.pinned (OpenSpec.upto namesFindsSpec)

/-- 'arbaclaw08.NamesEquals', WHERE WHAT IT READS IS OF BULK AT MOST 1048576: true; the input reads as it did. -/
def namesEqualsUptoRow : OpenClaim := { program := "ytpifmenfgbcneaa", sum := "574924e75e24c965e3948d4e2155cc8ac9034cdc55f9e96f328b98725b462625", func := "arbac/arbaclaw08.NamesEquals", spec := "namesEquals", inPlace := ["maps.clone"], unfollowed := true, recurses := true, apart := false, narrowed := true }
def NamesEqualsUptoSaid : Prop := namesEqualsUptoRow.holds Try.pinned (OpenSpec.upto namesEqualsSpec)

/-- 'arbaclaw08.NamesNil', WHERE WHAT IT READS IS OF BULK AT MOST 1048576: true; the input reads as it did. -/
def namesNilUptoRow : OpenClaim := { program := "ytpifmenfgbcneaa", sum := "574924e75e24c965e3948d4e2155cc8ac9034cdc55f9e96f328b98725b462625", func := "arbac/arbaclaw08.NamesNil", spec := "namesNil", inPlace := ["maps.clone"], unfollowed := true, recurses := true, apart := false, narrowed := true }
def NamesNilUptoSaid : Prop := namesNilUptoRow.holds Try.pinned (OpenSpec.upto namesNilSpec)

/-- 'arbaclaw08.NamesReads', WHERE WHAT IT READS IS OF BULK AT MOST 1048576: true; the input reads as it did. -/
def namesReadsUptoRow : OpenClaim := { program := "ytpifmenfgbcneaa", sum := "574924e75e24c965e3948d4e2155cc8ac9034cdc55f9e96f328b98725b462625", func := "arbac/arbaclaw08.NamesReads", spec := "namesReads", inPlace := ["maps.clone"], unfollowed := true, recurses := true, apart := false, narrowed := true }
def NamesReadsUptoSaid : Prop := namesReadsUptoRow.holds Try.pinned (OpenSpec.upto namesReadsSpec)

/-- 'arbaclaw08.NamesBytes', WHERE WHAT IT READS IS OF BULK AT MOST 1048576: true; the input reads as it did. -/
def namesBytesUptoRow : OpenClaim := { program := "ytpifmenfgbcneaa", sum := "574924e75e24c965e3948d4e2155cc8ac9034cdc55f9e96f328b98725b462625", func := "arbac/arbaclaw08.NamesBytes", spec := "namesBytes", inPlace := ["maps.clone"], unfollowed := true, recurses := true, apart := false, narrowed := true }
def NamesBytesUptoSaid : Prop := namesBytesUptoRow.holds Try.pinned (OpenSpec.upto namesBytesSpec)

end Rows
end Go.Proofs.Ytpifmenfgbcneaa
