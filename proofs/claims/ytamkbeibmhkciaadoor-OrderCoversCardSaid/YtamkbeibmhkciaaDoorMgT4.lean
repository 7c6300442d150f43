/- order: the laws Sorts, Paths, Reduces, Asks. -/
import Derived.Test.YtamkbeibmhkciaaDoorMgT3
namespace Go.Mg
open Go Go.RowKit
set_option linter.unusedSimpArgs false
set_option linter.unusedVariables false
set_option maxRecDepth 100000
/- arbaclaw06.OrderSorts -/
/- arbaclaw06.OrderPaths -/
/- arbaclaw06.OrderReduces -/
/- arbaclaw06.OrderAsks -/
structure LawC (P : Program) (ι : Ids) : Prop where
  awk : AwkSpec P ι (ι.f 270)
  mak : LMakeSpec P ι (ι.f 268)
  is : IsSpec P ι (ι.f 269)
  srt : OSrtSpec P (ι.f 209)
  pt : OPathSpec P (ι.f 245)
  rd : ORedSpec P ι (ι.f 239) redO
  cl : ORedSpec P ι (ι.f 240) cloO
  less : OLessSpec P (ι.f 208)
  abv : OAbvSpec P (ι.f 206)
  blw : OBlwSpec P (ι.f 207)
  lst : BListSpec P ι (ι.f 139)
  rsrt : RSrtSpec P (ι.f 259)
  rpt : RPathSpec P (ι.f 262)
  rrd : RMapSpec P (ι.f 256) redR
  rcl : RMapSpec P (ι.f 255) fun _ R => tcB R
  ris : RIsSpec P (ι.f 250)
  rab : RListSpec P (ι.f 251) rabL
  rbe : RListSpec P (ι.f 252) rbeL
  eqI : IEqSpec P (ι.f 165)
theorem ptr_of {H : Hp} {v : Value} {n : Nat} {R : Nat → Nat → Bool} (h : OrdV H v n R) : ∃ b, v = .pointer (some ⟨b, 0, none⟩) := by
  obtain ⟨_, _, _, b, _, _, _, _, _, _, _, e, _⟩ := h; exact ⟨b, e⟩
def Law1Spec (P : Program) (ι : Ids) (k : FuncId) : Prop := ∀ (r : RawN) (v : Value) (H : Hp), TabOk ι H → RawV H v r → CallsM P k #[v] H fun x H' => x = .bool true ∧ Keep (fun _ => False) H H'
theorem eqc {P : Program} {k : FuncId} (h : IEqSpec P k) (l : List Nat) (A : Hp) (w w' : Value) (K : Value → Hp → Prop) (hl : l.length ≤ 1000000) (h1 : SlR A w (iN l)) (h2 : SlR A w' (iN l)) (hK : K (.bool true) A) : CallsM P k #[w, w'] A K :=
  (h (nI l) (nI l) w w' A h1 h2 (by simp [nI]; omega)).mono fun r A' h => by
    obtain ⟨rfl, rfl⟩ := h
    rw [decide_eq_true rfl]; exact hK
end Go.Mg
