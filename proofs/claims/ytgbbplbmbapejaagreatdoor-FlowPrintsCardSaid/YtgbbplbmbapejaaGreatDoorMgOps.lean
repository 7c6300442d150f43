/- Part of the proof of FlowPrintsCardSaid: a lemma text of ours, over the kit alone. No conditions. -/
import Derived.Test.YtgbbplbmbapejaaGreatDoorMgMoreT
set_option linter.all false
namespace Go.Mg
open Go Go.RowKit
inductive PX where
 | mv (a : A)
 | pick (c a b : A)
 | ar (op : BinOp) (k : IntKind) (a b : A)
 | dv (op : BinOp) (k : IntKind) (a b : A)
 | bt (op : BinOp) (k : IntKind) (a b : A)
 | sh (op : BinOp) (k : IntKind) (a b : A)
 | cm (op : BinOp) (k : IntKind) (a b : A)
 | sc (op : BinOp) (a b : A)
 | sadd (a b : A)
 | eqb (n : Bool) (a b : A)
 | not (a : A)
 | neg (k : IntKind) (a : A)
 | cpl (k : IntKind) (a : A)
 | ii (k : IntKind) (a : A)
 | cs (a : A)
 | ld (a : A)
 | nil (a : A)
 | fa (off : Nat) (a : A)
 | ia (len size : Nat) (a i : A)
 | is (size : Nat) (a i : A)
 | ext (a : A) (i : Nat)
 | m (q : PM)
def arI : BinOp -> Int -> Int -> Int
 | .add, x, y => x + y
 | .sub, x, y => x - y
 | _, x, y => x * y
def dvI (k : IntKind) : BinOp -> Int -> Int -> Int
 | .quo, x, y => k.wrap (x.tdiv y)
 | _, x, y => x.tmod y
def shI (k : IntKind) : BinOp -> Int -> Int -> Int
 | .shl, x, y => k.wrap (x * 2 ^ y.toNat)
 | _, x, y => x / 2 ^ y.toNat
def cmI : BinOp -> Int -> Int -> Bool
 | .eql, x, y => x == y
 | .neq, x, y => x != y
 | .lss, x, y => decide (x < y)
 | .leq, x, y => decide (x <= y)
 | .gtr, x, y => decide (x > y)
 | _, x, y => decide (x ≥ y)
def scB : BinOp -> ByteArray -> ByteArray -> Bool
 | .eql, x, y => x.toList == y.toList
 | .neq, x, y => !(x.toList == y.toList)
 | .lss, x, y => Op.bytesLess x.toList y.toList
 | .leq, x, y => Op.bytesLess x.toList y.toList || x.toList == y.toList
 | .gtr, x, y => !(Op.bytesLess x.toList y.toList || x.toList == y.toList)
 | _, x, y => !Op.bytesLess x.toList y.toList
def ptrAdd (v : Value) (n : Nat) : Value := match v with | .pointer (some a) => .pointer (some (a.add n)) | v => v
def eltP (v : Value) (size : Nat) (i : Int) : Value := match v with | .slice a _ _ => .pointer (a.map (·.add (i.toNat * size))) | v => v
def okElt (v : Value) (i : Int) : Prop := match v with | .slice a l _ => a.isSome = true /\ 0 <= i /\ i < l | _ => False
def ldO (H : Hp) (v : Value) : Option Value := match v with | .pointer (some a) => cell H a | _ => none
def noMeth : Value -> Prop | .pointer none | .nilIface | .nilFunc => False | .func (.method _) _ _ => False | _ => True
def tupI (v : Value) (i : Nat) : Option Value := match v with | .tuple vs => vs[i]? | _ => none
def PX.pre : PX -> (A -> Value) -> Hp -> Prop
 | .mv _, _, _ => True
 | .pick c _ _, r, _ => isB (r c)
 | .ar _ k a b, r, _ => isI k (r a) /\ isI k (r b)
 | .dv _ k a b, r, _ => isI k (r a) /\ isI k (r b) /\ (r b).i ≠ 0
 | .bt _ k a b, r, _ => isI k (r a) /\ isI k (r b)
 | .sh _ k a b, r, _ => isI k (r a) /\ isInt (r b) /\ 0 <= (r b).i /\ (r b).i <= k.bits
 | .cm _ k a b, r, _ => isI k (r a) /\ isI k (r b)
 | .sc _ a b, r, _ => isS (r a) /\ isS (r b)
 | .sadd a b, r, _ => isS (r a) /\ isS (r b) /\ (r a).s.size + (r b).s.size <= maxLen
 | .eqb _ a b, r, _ => isB (r a) /\ isB (r b)
 | .not a, r, _ => isB (r a)
 | .neg k a, r, _ => isI k (r a)
 | .cpl k a, r, _ => isI k (r a)
 | .ii _ a, r, _ => isInt (r a)
 | .cs a, r, _ => isS (r a)
 | .ld a, r, H => (ldO H (r a)).isSome = true
 | .nil a, r, _ => noMeth (r a)
 | .fa _ a, r, _ => isP (r a)
 | .ia len _ a i, r, _ => isP (r a) /\ isInt (r i) /\ 0 <= (r i).i /\ (r i).i < len
 | .is _ a i, r, _ => isInt (r i) /\ okElt (r a) (r i).i
 | .ext a i, r, _ => (tupI (r a) i).isSome = true
 | .m q, r, H => q.pre r H
def PX.val : PX -> (A -> Value) -> Hp -> Value
 | .mv a, r, _ => r a
 | .pick c a b, r, _ => if (r c).b then r a else r b
 | .ar op k a b, r, _ => .int k (k.wrap (arI op (r a).i (r b).i))
 | .dv op k a b, r, _ => .int k (dvI k op (r a).i (r b).i)
 | .bt op k a b, r, _ => .int k (bits op k (r a).i (r b).i)
 | .sh op k a b, r, _ => .int k (shI k op (r a).i (r b).i)
 | .cm op _ a b, r, _ => .bool (cmI op (r a).i (r b).i)
 | .sc op a b, r, _ => .bool (scB op (r a).s (r b).s)
 | .sadd a b, r, _ => .string ((r a).s ++ (r b).s)
 | .eqb n a b, r, _ => .bool (n != ((r a).b == (r b).b))
 | .not a, r, _ => .bool (!(r a).b)
 | .neg k a, r, _ => .int k (k.wrap (- (r a).i))
 | .cpl k a, r, _ => .int k (bits .xor k (if k.signed then -1 else k.max) (r a).i)
 | .ii k a, r, _ => .int k (k.wrap (r a).i)
 | .cs a, r, _ => r a
 | .ld a, r, H => (ldO H (r a)).getD undef
 | .nil a, r, _ => r a
 | .fa off a, r, _ => ptrAdd (r a) off
 | .ia _ size a i, r, _ => ptrAdd (r a) ((r i).i.toNat * size)
 | .is size a i, r, _ => eltP (r a) size (r i).i
 | .ext a i, r, _ => (tupI (r a) i).getD undef
 | .m q, r, H => q.val r H
def px1 (P : Program) (tr : Operand -> Option A) (o : Oper) : Option PX :=
 match o.op with
 | .move x | .assign x => do pure (.mv (← tr x))
 | .pick c a b => do pure (.pick (← tr c) (← tr a) (← tr b))
 | .binOp op t x y _ => do
  let a <- tr x
  let b <- tr y
  match P.underlying t, op with
  | some (.int k), .add | some (.int k), .sub | some (.int k), .mul => pure (.ar op k a b)
  | some (.int k), .quo | some (.int k), .rem => pure (.dv op k a b)
  | some (.int k), .and | some (.int k), .or | some (.int k), .xor | some (.int k), .andNot => pure (.bt op k a b)
  | some (.int k), .shl | some (.int k), .shr => pure (.sh op k a b)
  | some (.int k), .eql | some (.int k), .neq | some (.int k), .lss | some (.int k), .leq | some (.int k), .gtr | some (.int k), .geq => pure (.cm op k a b)
  | some .string, .add => pure (.sadd a b)
  | some .string, .eql | some .string, .neq | some .string, .lss | some .string, .leq | some .string, .gtr | some .string, .geq => pure (.sc op a b)
  | some .bool, .eql => pure (.eqb false a b)
  | some .bool, .neq => pure (.eqb true a b)
  | _, _ => none
 | .unOp .not _ x => do pure (.not (← tr x))
 | .unOp op t x => do
  let a <- tr x
  match op with
  | .neg => match P.underlying t with
   | some (.int k) => pure (.neg k a)
   | _ => none
  | .xor => match P.underlying t with
   | some (.int k) => pure (.cpl k a)
   | _ => none
  | _ => none
 | .convert s t x => do
  let a <- tr x
  match P.underlying s, P.underlying t with
  | some (.int _), some (.int k) => pure (.ii k a)
  | some .string, some .string => pure (.cs a)
  | _, _ => none
 | .load t x => do
  let a <- tr x
  match P.underlying t with
  | some (.struct _) | some (.array _ _) | none => none
  | _ => pure (.ld a)
 | .nilCheck x => do pure (.nil (← tr x))
 | .fieldAddr s x f => do
  let a <- tr x
  match P.underlying s with
  | some (.struct fs) => match fs[f]? with
   | some fd => if P.cellsOf fd.type = 0 then none else pure (.fa fd.offset a)
   | none => none
  | _ => none
 | .indexAddr t x i => do
  let a <- tr x
  let j <- tr i
  match P.underlying t with
  | some (.array n e) => if 2 <= n /\ (P.info? e).isSome = true then pure (.ia n (P.cellsOf e) a j) else none
  | some (.slice e) => if (P.info? e).isSome = true then pure (.is (P.cellsOf e) a j) else none
  | _ => none
 | .extract x i => do pure (.ext (← tr x) i)
 | _ => none
def px (P : Program) (tr : Operand -> Option A) (o : Oper) : Option PX := match px1 P tr o with | some x => some x | none => (pm P tr o).map .m
end Go.Mg
