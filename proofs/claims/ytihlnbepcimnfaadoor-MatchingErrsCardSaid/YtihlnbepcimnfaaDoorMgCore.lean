/- A small logic of our own over the model: statements of a function's code as trees of operations, their verification conditions over plain frames and heaps, and the theorem that ties these conditions to the run of the model. Nothing of any one program stands here. -/
import Derived.WalkKit
import Derived.StillTailTactics
import Derived.Deep.LoopGhost
namespace Go.Mg
open Go Go.RowKit

abbrev Hp := Array Obj
abbrev Fr := Nat → Value
abbrev Env := List (Nat × Value)

structure Same (w w' : World) : Prop where
  os : w'.os = w.os
  tape : w'.tape = w.tape
  output : w'.output = w.output

theorem Same.refl (w : World) : Same w w := ⟨rfl, rfl, rfl⟩
theorem Same.trans {a b c : World} (h : Same a b) (k : Same b c) : Same a c := ⟨k.os.trans h.os, k.tape.trans h.tape, k.output.trans h.output⟩

/-- What a call comes to, said of heaps alone: whatever the world with that heap. -/
def CallsM (P : Program) (f : FuncId) (args : Array Value) (H : Hp) (R : Value → Hp → Prop) : Prop :=
  ∀ w : World, w.heap = H → Calls P f args w fun e w' => ∃ v, e = .returned v ∧ R v w'.heap ∧ Same w w'

theorem CallsM.mono {P : Program} {f : FuncId} {args : Array Value} {H : Hp} {R R' : Value → Hp → Prop} (h : CallsM P f args H R) (hr : ∀ v H', R v H' → R' v H') : CallsM P f args H R' :=
  fun w hw => (h w hw).mono fun _ _ ⟨v, he, hR, hs⟩ => ⟨v, he, hr _ _ hR, hs⟩

/-! ### operands, environments, frames -/
inductive A where
  | t (n : Nat)
  | v (n : Nat)
  | c (x : Value)

def look : Env → Nat → Value
  | [], _ => undef
  | p :: e, n => if n = p.1 then p.2 else look e n

def A.rd (e : Env) (f : Fr) : A → Value
  | .t n => look e n
  | .v n => f n
  | .c x => x

def upd (f : Fr) (d : Nat) (x : Value) : Fr := fun i => if i = d then x else f i

inductive D where
  | no
  | t (n : Nat)
  | v (n : Nat)

def D.env : D → Value → Env → Env
  | .t n, x, e => (n, x) :: e
  | _, _, e => e
def D.fr : D → Value → Fr → Fr
  | .v n, x, f => upd f n x
  | _, _, f => f

/-! ### heaps -/
def cell (H : Hp) (a : Addr) : Option Value :=
  match H[a.block]? with
  | some (.cells c _ _) => if a.spot.isSome then none else c[a.off]?
  | _ => none
def frz (H : Hp) (a : Addr) : Bool :=
  match H[a.block]? with
  | some (.cells _ _ (lo, hi)) => lo ≤ a.off && a.off < hi
  | _ => false
def setc (H : Hp) (a : Addr) (v : Value) : Hp :=
  H.modify a.block fun
    | .cells c elem frozen => .cells (if a.spot.isSome then c else c.setIfInBounds a.off v) elem frozen
    | o => o
theorem cell_eq (w : World) (a : Addr) : w.cell? a = cell w.heap a := rfl
theorem frz_eq (w : World) (a : Addr) : w.frozen? a = frz w.heap a := rfl
theorem setc_eq (w : World) (a : Addr) (v : Value) : w.setCell a v = { w with heap := setc w.heap a v } := rfl

/-! ### projections of values -/
def _root_.Go.Value.i : Value → Int | .int _ n => n | _ => 0
def _root_.Go.Value.b : Value → Bool | .bool b => b | _ => false
def isI (k : IntKind) : Value → Prop | .int k' _ => k' = k | _ => False
def isB : Value → Prop | .bool _ => True | _ => False

/-- The world w' is w with another heap, maybe after draws. -/
def Onto (w : World) (H' : Hp) (w' : World) : Prop := w'.heap = H' ∧ Same w w'

/-- What one operation comes to. -/
def Does (P : Program) (o : Oper) (a : Act) (w : World) (K : Value → Hp → Prop) : Prop :=
  ∀ (next : Act → World → Prop) (Q : Exit → Act → World → Prop), (∀ v w', K v w'.heap → Same w w' → next (a.put o.dst v) w') → o.upon P a next Q ((execOp a.eval o).run P w)

end Go.Mg
