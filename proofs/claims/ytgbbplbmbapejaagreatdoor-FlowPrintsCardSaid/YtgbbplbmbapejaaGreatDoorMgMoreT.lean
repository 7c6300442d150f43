/- Several texts of ours in one. No conditions. -/
import Derived.Test.YtgbbplbmbapejaaGreatDoorMgMem0
import Derived.Laws.BytesString
set_option linter.all false
namespace Go.Mg
open Go Go.RowKit
inductive NK where
 | ptr | sl | mp | fn | ifc
inductive PM where
 | ldn (n : Nat) (a : A)
 | eqn (k : NK) (n : Bool) (a : A)
 | eqp (n : Bool) (a b : A)
 | eqa (n : Bool) (k : IntKind) (len : Nat) (a b : A)
 | sla (len size : Nat) (a : A) (lo hi : Option A)
 | sls (size : Nat) (a : A) (lo hi : Option A)
 | slt (a : A) (lo hi : Option A)
 | lens (a : A)
 | lenl (a : A)
 | lenc (n : Nat)
 | capl (a : A)
 | mn (a b : A)
 | mx (a b : A)
 | ix (n : Nat) (a i : A)
 | ixn (n size : Nat) (a i : A)
 | ixs (a i : A)
 | fld (off : Nat) (a : A)
 | fldn (off size : Nat) (a : A)
 | slm (size : Nat) (a : A) (lo : Option A) (hi mx : A)
 | b2s (a : A)
 | bld (zero : Array Value) (parts : List (Nat × Nat × A))
 | mkf (g : FuncId) (first cap : List A)
 | lks (zero : Value) (ok : Bool) (m k : A)
 | lki (kk : IntKind) (zero : Value) (m k : A)
 | mif (t : TypeId) (a : A)
 | tas (t : TypeId) (a : A)
 | eqs (n : Bool) (fs : List (Nat × Option IntKind)) (a b : A)
 | mxs (a : A) (l : List A)
def okNil : NK -> Value -> Prop
 | .ptr, .pointer _ => True
 | .sl, .slice _ _ _ => True
 | .mp, .map _ => True
 | .fn, .func _ _ _ => True
 | .fn, .nilFunc => True
 | .ifc, .nilIface => True
 | .ifc, .iface _ _ => True
 | _, _ => False
def isNilV : Value -> Bool
 | .pointer none | .slice none _ _ | .map none | .nilFunc | .nilIface => true
 | _ => false
def isPt : Value -> Prop | .pointer _ => True | _ => False
def isAg : Value -> Prop | .agg _ => True | _ => False
def _root_.Go.Value.g : Value -> Array Value | .agg cs => cs | _ => #[]
def isSl : Value -> Prop | .slice _ _ _ => True | _ => False
def lenV : Value -> Nat | .slice _ n _ => n | _ => 0
def capV : Value -> Nat | .slice _ _ c => c | _ => 0
def adrV : Value -> Option Addr | .slice a _ _ => a | _ => none
def oi (r : A -> Value) (x : Option A) : Option Int := x.map fun a => (r a).i
def okI (r : A -> Value) : Option A -> Prop
 | none => True
 | some a => isInt (r a)
def okLH (len cap : Nat) : Option Int -> Option Int -> Prop
 | none, none => True
 | some l, none => 0 <= l /\ l <= len
 | none, some h => 0 <= h /\ h <= cap
 | some l, some h => 0 <= l /\ l <= h /\ h <= cap
def loN (lo : Option Int) : Nat := (lo.getD 0).toNat
def hiN (len : Nat) (hi : Option Int) : Nat := match hi with | none => len | some h => h.toNat
def slV (v : Value) (size : Nat) (lo hi : Option Int) : Value :=
 match v with
 | .slice a l c => .slice (if c = loN lo then a else a.map (·.add (loN lo * size))) (hiN l hi - loN lo) (c - loN lo)
 | v => v
def slaV (v : Value) (n size : Nat) (lo hi : Option Int) : Value :=
 match v with
 | .pointer (some a) => .slice (some (if n = loN lo then a else a.add (loN lo * size))) (hiN n hi - loN lo) (n - loN lo)
 | v => v
def fillV (r : A -> Value) : Array Value -> List (Nat × Nat × A) -> Array Value
 | C, [] => C
 | C, (off, _, a) :: l => fillV r (wrA C off (r a).cells.toList) l
def okFill (r : A -> Value) (n : Nat) : List (Nat × Nat × A) -> Prop
 | [] => True
 | (off, size, a) :: l => (r a).cells.size = size /\ off + size <= n /\ okFill r n l
def bytesIn (H : Hp) (v : Value) : Option (Array Value) :=
 match v with
 | .slice (some b) n _ => if n = 0 then some #[] else ldNA H b n
 | .slice none _ _ => some #[]
 | _ => none
def okB2s (H : Hp) (v : Value) : Prop := ∃ xs, bytesIn H v = some xs /\ ∀ x ∈ xs.toList, isI .u8 x
def toBA (xs : Array Value) : ByteArray := ⟨xs.map fun v => UInt8.ofNat v.i.toNat⟩
def slmV (v : Value) (size l h m : Nat) : Value := match v with
 | .slice a _ _ => .slice (if m = l then a else a.map (·.add (l * size))) (h - l) (m - l)
 | v => v
def u8T (P : Program) (e : TypeId) : Bool := match P.underlying e with | some (.int .u8) => true | _ => false
def mapIn (H : Hp) (v : Value) : Option (List MapEntry) :=
 match v with
 | .map none => some []
 | .map (some b) => match H[b]? with | some (.map es _) => some es.toList | _ => none
 | _ => none
def findE (k : ByteArray) (es : List MapEntry) : Option Value := (es.find? fun e => k == e.key.s).map (·.val)
def isIf (t : TypeId) (v : Value) : Prop := match v with | .iface u _ => u = t | _ => False
def ifV (v : Value) : Value := match v with | .iface _ x => x | _ => undef
def findI (k : Int) (es : List MapEntry) : Option Value := (es.find? fun e => k == e.key.i).map (·.val)
def gL : Value -> List Value | .agg cs => cs.toList | _ => []
def okFs : List (Nat × Option IntKind) -> List Value -> Prop
 | [], _ => True
 | (o, some k) :: l, xs => (o < xs.length /\ isI k (xs.getD o undef)) /\ okFs l xs
 | (o, none) :: l, xs => (o < xs.length /\ isS (xs.getD o undef)) /\ okFs l xs
def eqFs : List (Nat × Option IntKind) -> List Value -> List Value -> Bool
 | [], _, _ => true
 | (o, some _) :: l, xs, ys => ((xs.getD o undef).i == (ys.getD o undef).i) && eqFs l xs ys
 | (o, none) :: l, xs, ys => ((xs.getD o undef).s.toList == (ys.getD o undef).s.toList) && eqFs l xs ys
def mxF (m : Int) : List Int -> Int
 | [] => m
 | x :: l => mxF (if x > m then x else m) l
def PM.pre : PM -> (A -> Value) -> Hp -> Prop
 | .ldn n a, r, H => (ldNO H (r a) n).isSome = true
 | .eqn k _ a, r, _ => okNil k (r a)
 | .eqp _ a b, r, _ => isPt (r a) /\ isPt (r b) /\ (isNilV (r a) = true \/ isNilV (r b) = true)
 | .eqa _ k n a b, r, _ => isAg (r a) /\ isAg (r b) /\ (r a).g.size = n /\ (r b).g.size = n /\ (∀ x ∈ (r a).g, isI k x) /\ (∀ x ∈ (r b).g, isI k x)
 | .sla len _ a lo hi, r, _ => isP (r a) /\ okI r lo /\ okI r hi /\ okLH len len (oi r lo) (oi r hi)
 | .sls _ a lo hi, r, _ => isSl (r a) /\ okI r lo /\ okI r hi /\ okLH (lenV (r a)) (capV (r a)) (oi r lo) (oi r hi)
 | .slt a lo hi, r, _ => isS (r a) /\ okI r lo /\ okI r hi /\ okLH (r a).s.size (r a).s.size (oi r lo) (oi r hi)
 | .lens a, r, _ => isS (r a)
 | .lenl a, r, _ => isSl (r a)
 | .lenc _, _, _ => True
 | .capl a, r, _ => isSl (r a)
 | .mn a b, r, _ => isInt (r a) /\ isInt (r b)
 | .mx a b, r, _ => isInt (r a) /\ isInt (r b)
 | .ix n a i, r, _ => isAg (r a) /\ isInt (r i) /\ 0 <= (r i).i /\ (r i).i < n /\ (r i).i.toNat < (r a).g.size
 | .ixn n _ a i, r, _ => isAg (r a) /\ isInt (r i) /\ 0 <= (r i).i /\ (r i).i < n
 | .ixs a i, r, _ => isS (r a) /\ isInt (r i) /\ 0 <= (r i).i /\ (r i).i < (r a).s.size
 | .fld off a, r, _ => isAg (r a) /\ off < (r a).g.size
 | .fldn _ _ a, r, _ => isAg (r a)
 | .slm _ a lo hi tp, r, _ => isSl (r a) /\ okI r lo /\ isInt (r hi) /\ isInt (r tp) /\ 0 <= (oi r lo).getD 0 /\ (oi r lo).getD 0 <= (r hi).i /\ (r hi).i <= (r tp).i /\ (r tp).i <= capV (r a)
 | .b2s a, r, H => okB2s H (r a)
 | .bld z ps, r, _ => okFill r z.size ps
 | .mkf _ _ _, _, _ => True
 | .lks _ _ m k, r, H => isS (r k) /\ ∃ es, mapIn H (r m) = some es /\ ∀ e ∈ es, isS e.key
 | .lki kk _ m k, r, H => isI kk (r k) /\ ∃ es, mapIn H (r m) = some es /\ ∀ e ∈ es, isI kk e.key
 | .mif _ _, _, _ => True
 | .tas t a, r, _ => isIf t (r a)
 | .eqs _ fs a b, r, _ => (isAg (r a) /\ isAg (r b)) /\ okFs fs (gL (r a)) /\ okFs fs (gL (r b))
 | .mxs a l, r, _ => isInt (r a) /\ ∀ b ∈ l, isInt (r b)
def PM.free : PM -> Bool
 | .ldn _ _ => false
 | .b2s _ => false
 | .lks .. => false
 | .lki .. => false
 | _ => true
def kindOf : Value -> IntKind | .int k _ => k | _ => .i64
def PM.val : PM -> (A -> Value) -> Hp -> Value
 | .ldn n a, r, H => .agg ((ldNO H (r a) n).getD #[])
 | .eqn _ n a, r, _ => .bool (n != isNilV (r a))
 | .eqp n a b, r, _ => .bool (n != (isNilV (r a) && isNilV (r b)))
 | .eqa n _ _ a b, r, _ => .bool (n != ((r a).g.toList.map Value.i == (r b).g.toList.map Value.i))
 | .sla len size a lo hi, r, _ => slaV (r a) len size (oi r lo) (oi r hi)
 | .sls size a lo hi, r, _ => slV (r a) size (oi r lo) (oi r hi)
 | .slt a lo hi, r, _ => .string ((r a).s.extract (loN (oi r lo)) (hiN (r a).s.size (oi r hi)))
 | .lens a, r, _ => .int .i64 (r a).s.size
 | .lenl a, r, _ => .int .i64 (lenV (r a))
 | .lenc n, _, _ => .int .i64 n
 | .capl a, r, _ => .int .i64 (capV (r a))
 | .mn a b, r, _ => .int (kindOf (r a)) (if (r b).i < (r a).i then (r b).i else (r a).i)
 | .mx a b, r, _ => .int (kindOf (r a)) (if (r b).i > (r a).i then (r b).i else (r a).i)
 | .ix _ a i, r, _ => ((r a).g[(r i).i.toNat]?).getD undef
 | .ixn _ size a i, r, _ => .agg ((r a).g.extract ((r i).i.toNat * size) ((r i).i.toNat * size + size))
 | .ixs a i, r, _ => .int .u8 (((r a).s[(r i).i.toNat]?.getD 0).toNat)
 | .fld off a, r, _ => ((r a).g[off]?).getD undef
 | .fldn off size a, r, _ => .agg ((r a).g.extract off (off + size))
 | .slm size a lo hi tp, r, _ => slmV (r a) size (loN (oi r lo)) (r hi).i.toNat (r tp).i.toNat
 | .b2s a, r, H => .string (toBA ((bytesIn H (r a)).getD #[]))
 | .bld z ps, r, _ => .agg (fillV r z ps)
 | .mkf g fs cs, r, _ => .func (.func g) (fs.map r).toArray (cs.map r).toArray
 | .lks z ok m k, r, H => if ok = true then .tuple #[(findE (r k).s ((mapIn H (r m)).getD [])).getD z, .bool (findE (r k).s ((mapIn H (r m)).getD [])).isSome] else (findE (r k).s ((mapIn H (r m)).getD [])).getD z
 | .lki _ z m k, r, H => (findI (r k).i ((mapIn H (r m)).getD [])).getD z
 | .mif t a, r, _ => .iface t (r a)
 | .tas _ a, r, _ => ifV (r a)
 | .eqs n fs a b, r, _ => .bool (n != eqFs fs (gL (r a)) (gL (r b)))
 | .mxs a l, r, _ => .int (kindOf (r a)) (mxF (r a).i (l.map fun b => (r b).i))
def trO (tr : Operand -> Option A) : Option Operand -> Option (Option A)
 | none => some none
 | some x => (tr x).map some
def plain1 (P : Program) (t : TypeId) : Bool :=
 match P.underlying t with
 | some (.struct _) | some (.array _ _) | none => false
 | _ => true
def aggr (P : Program) (t : TypeId) : Bool :=
 match P.underlying t with
 | some (.struct _) | some (.array _ _) => (P.info? t).isSome
 | _ => false
def trParts (tr : Operand -> Option A) (place : Nat -> Option (Nat × Nat)) : List (Nat × Operand) -> Option (List (Nat × Nat × A))
 | [] => some []
 | (i, x) :: l => (place i).bind fun p => (tr x).bind fun a => (trParts tr place l).map ((p.1, p.2, a) :: ·)
def nilOf : Operand -> Option NK
 | .const (.pointer none) => some .ptr
 | .const (.slice none _ _) => some .sl
 | .const (.map none) => some .mp
 | .const .nilFunc => some .fn
 | .const .nilIface => some .ifc
 | _ => none
def fitsNil : NK -> TypeDesc -> Bool
 | .ptr, .pointer _ => true
 | .sl, .slice _ => true
 | .mp, .map _ _ => true
 | .fn, .func _ _ _ => true
 | .ifc, .interface _ => true
 | _, _ => false
def trFs (P : Program) : List Field -> Option (List (Nat × Option IntKind))
 | [] => some []
 | f :: l => if f.name = "_" then none else match P.underlying f.type with
  | some (.int k) => (trFs P l).map ((f.offset, some k) :: ·)
  | some .string => (trFs P l).map ((f.offset, none) :: ·)
  | _ => none
def pmEq (P : Program) (tr : Operand -> Option A) (n : Bool) (t : TypeId) (x y : Operand) : Option PM :=
 match P.underlying t with
 | none => none
 | some d =>
  match nilOf y with
  | some k => if fitsNil k d then (tr x).map (.eqn k n) else none
  | none =>
   match d with
   | .pointer _ => (tr x).bind fun a => (tr y).bind fun b => some (.eqp n a b)
   | .array len e => match P.underlying e with
    | some (.int k) => if P.cellsOf e = 1 then (tr x).bind fun a => (tr y).bind fun b => some (.eqa n k len a b) else none
    | _ => none
   | .struct fs => if P.stoodInHeld t = true then none else (trFs P fs.toList).bind fun l => (tr x).bind fun a => (tr y).bind fun b => some (.eqs n l a b)
   | _ => none
def trLs (tr : Operand -> Option A) : List Operand -> Option (List A)
 | [] => some []
 | x :: l => (tr x).bind fun a => (trLs tr l).map (a :: ·)
def pm (P : Program) (tr : Operand -> Option A) (o : Oper) : Option PM :=
 match o.op with
 | .load t x => if aggr P t then (tr x).map (.ldn (P.cellsOf t)) else none
 | .binOp .eql t x y _ => pmEq P tr false t x y
 | .binOp .neq t x y _ => pmEq P tr true t x y
 | .slice t x lo hi none =>
  (tr x).bind fun a => (trO tr lo).bind fun l => (trO tr hi).bind fun h =>
  match P.underlying t with
  | some (.array n e) => if (P.info? e).isSome then some (.sla n (P.cellsOf e) a l h) else none
  | some (.slice e) => if (P.info? e).isSome then some (.sls (P.cellsOf e) a l h) else none
  | some .string => some (.slt a l h)
  | _ => none
 | .call { callee := .builtin .len, args, argTypes } =>
  match args.toList, argTypes.toList with
  | [x], [t] => (tr x).bind fun a => match P.underlying t with
   | some .string => some (.lens a)
   | some (.slice _) => some (.lenl a)
   | some (.array n _) => some (.lenc n)
   | _ => none
  | _, _ => none
 | .call { callee := .builtin .cap, args, argTypes } =>
  match args.toList, argTypes.toList with
  | [x], [t] => (tr x).bind fun a => match P.underlying t with
   | some (.slice _) => some (.capl a)
   | _ => none
  | _, _ => none
 | .call { callee := .builtin .min, args, .. } =>
  match args.toList with
  | [x, y] => (tr x).bind fun a => (tr y).bind fun b => some (.mn a b)
  | _ => none
 | .call { callee := .builtin .max, args, .. } =>
  match args.toList with
  | [x, y] => (tr x).bind fun a => (tr y).bind fun b => some (.mx a b)
  | x :: y :: z :: l => (tr x).bind fun a => (trLs tr (y :: z :: l)).map (.mxs a ·)
  | _ => none
 | .index t x i => (tr x).bind fun a => (tr i).bind fun j =>
  match P.underlying t with
  | some (.array n e) => if plain1 P e && P.cellsOf e == 1 then some (.ix n a j) else if aggr P e then some (.ixn n (P.cellsOf e) a j) else none
  | some .string => some (.ixs a j)
  | _ => none
 | .field t x f => (tr x).bind fun a =>
  match P.underlying t with
  | some (.struct fs) => match fs[f]? with
   | some fd => if plain1 P fd.type then some (.fld fd.offset a) else if aggr P fd.type then some (.fldn fd.offset (P.cellsOf fd.type) a) else none
   | none => none
  | _ => none
 | .build t parts =>
  match (P.info? t).bind (·.zero) with
  | some z => match P.underlying t with
   | some (.struct fs) => if fs.all fun f => (P.info? f.type).isSome then (trParts tr (fun i => (fs[i]?).map fun f => (f.offset, P.cellsOf f.type)) parts.toList).map (.bld z.cells) else none
   | some (.array _ e) => if (P.info? e).isSome then (trParts tr (fun i => some (i * P.cellsOf e, P.cellsOf e)) parts.toList).map (.bld z.cells) else none
   | _ => none
  | none => none
 | .slice t x lo (some hi) (some mx) =>
  (tr x).bind fun a => (trO tr lo).bind fun l => (tr hi).bind fun h => (tr mx).bind fun m =>
  match P.underlying t with
  | some (.slice e) => if (P.info? e).isSome then some (.slm (P.cellsOf e) a l h m) else none
  | _ => none
 | .convert s t x => (tr x).bind fun a =>
  match P.underlying s, P.underlying t with
  | some (.slice e), some .string => if u8T P e = true then some (.b2s a) else none
  | _, _ => none
 | .makeFunc (.func g) fs cs => (trLs tr fs.toList).bind fun a => (trLs tr cs.toList).map fun b => .mkf g a b
 | .lookup t x i ok => (tr x).bind fun a => (tr i).bind fun b =>
  match P.underlying t with
  | some (.map k e) => match P.underlying k, (P.info? e).bind (·.zero) with
   | some .string, some z => some (.lks z ok a b)
   | some (.int kk), some z => if ok = true then none else some (.lki kk z a b)
   | _, _ => none
  | _ => none
 | .makeInterface t x => (tr x).bind fun a => match P.underlying t with
  | some (.interface _) => none
  | some _ => some (.mif t a)
  | none => none
 | .typeAssert x _ t false => (tr x).bind fun a => match P.underlying t with
  | some (.interface _) => none
  | some _ => some (.tas t a)
  | none => none
 | _ => none
end Go.Mg
namespace Go.Mg
open Go Go.RowKit
theorem isAg_spec {v : Value} (h : isAg v) : v = .agg v.g := by
 cases v <;> simp only [isAg] at h; rfl
theorem isSl_spec {v : Value} (h : isSl v) : v = .slice (adrV v) (lenV v) (capV v) := by
 cases v <;> simp only [isSl] at h; rfl
section
variable {P : Program} {o : Oper} {w : World} {ρ : Operand -> Value} {tr : Operand -> Option A} {r : A -> Value}
theorem isAgg_aggr {t : TypeId} (h : aggr P t = true) (w : World) : (isAgg t).run P w = .ok true w /\ (P.info? t).isSome = true := by
 unfold aggr at h
 split at h
 ·rename_i fs hu; exact ⟨by simp only [isAgg, Sem.run_bind, run_underlying hu, Result.andThen, Sem.run_pure], h⟩
 ·rename_i n e hu; exact ⟨by simp only [isAgg, Sem.run_bind, run_underlying hu, Result.andThen, Sem.run_pure], h⟩
 ·cases h
theorem isAgg_plain {t : TypeId} (h : plain1 P t = true) (w : World) : (isAgg t).run P w = .ok false w := by
 unfold plain1 at h
 cases hu : P.underlying t with
 | none => simp [hu] at h
 | some d =>
 rw [hu] at h
 simp only [isAgg, Sem.run_bind, run_underlying hu, Result.andThen]
 cases d <;> first | rfl | cases h
theorem run_bindok {α β : Type} {s : Sem α} {f : α -> Sem β} {v : α} {w w' : World} (h : s.run P w = .ok v w') : (s >>= f).run P w = (f v).run P w' := by
 simp only [Sem.run_bind, h, Result.andThen]
theorem eqGuard_pt (op : BinOp) (t : TypeId) (x y : Operand) (a b : Value) (h : (∀ xs, a ≠ .agg xs) /\ a ≠ .nilIface) : (eqGuard op t x y a b).run P w = .ok () w := by
 unfold eqGuard
 by_cases ho : (match op with | .eql => true | .neq => true | _ => false) = true
 ·cases op <;> simp at ho <;> (cases a <;> first | rfl | exact (h.1 _ rfl).elim | exact (h.2 rfl).elim)
 ·cases op <;> simp at ho <;> rfl
def isNilC : NK -> Value -> Prop
 | .ptr, .pointer none => True
 | .sl, .slice none _ _ => True
 | .mp, .map none => True
 | .fn, .nilFunc => True
 | .ifc, .nilIface => True
 | _, _ => False
theorem nilOf_eval {y : Operand} {k : NK} (h : nilOf y = some k) : ∃ v, y = .const v /\ isNilC k v := by
 unfold nilOf at h
 split at h <;> cases h <;> exact ⟨_, rfl, trivial⟩
theorem nilEq (d : Nat) {t : TypeId} {td : TypeDesc} (hu : P.underlying t = some td) {k : NK} (hf : fitsNil k td = true) {v : Value} (hv : okNil k v) {z : Value}
  (hz : isNilC k z) :
  (Op.equalIn (d + 1) t v z).run P w = .ok (isNilV v) w := by
 simp only [Op.equalIn, Sem.run_bind, run_underlying hu, Result.andThen]
 cases k
 case ptr =>
  cases td <;> first | (cases hf; done) | skip
  cases v <;> first | exact hv.elim | skip
  cases z <;> first | exact hz.elim | skip
  rename_i e a b
  cases b <;> first | exact hz.elim | skip
  cases a <;> rfl
 case sl =>
  cases td <;> first | (cases hf; done) | skip
  cases v <;> first | exact hv.elim | skip
  cases z <;> first | exact hz.elim | skip
  rename_i e a l c b l' c'
  cases b <;> first | exact hz.elim | skip
  cases a <;> rfl
 case mp =>
  cases td <;> first | (cases hf; done) | skip
  cases v <;> first | exact hv.elim | skip
  cases z <;> first | exact hz.elim | skip
  rename_i e q a b
  cases b <;> first | exact hz.elim | skip
  cases a <;> rfl
 case fn =>
  cases td <;> first | (cases hf; done) | skip
  cases v <;> first | exact hv.elim | skip
  all_goals
   cases z <;> first | exact hz.elim | skip
   rfl
 case ifc =>
  cases td <;> first | (cases hf; done) | skip
  cases v <;> first | exact hv.elim | skip
  all_goals
   cases z <;> first | exact hz.elim | skip
   rfl
theorem binOp_nil {k : NK} {v z : Value} (hv : okNil k v)
  (hz : isNilC k z) (t : TypeId) :
  binOp .eql t v z = (do pure (.bool (← Op.equal t v z))) /\ binOp .neq t v z = (do pure (.bool (!(← Op.equal t v z)))) := by
 cases k <;> cases v <;> first | exact hv.elim | (cases z <;> first | exact hz.elim | exact ⟨rfl, rfl⟩)
theorem eqGuard_nil (op : BinOp) (t : TypeId) (x y : Operand) {k : NK} {v z : Value} (hy : y = .const z) (hv : okNil k v)
  (hz : isNilC k z) : (eqGuard op t x y v z).run P w = .ok () w := by
 subst hy
 cases op <;> cases k <;> cases v <;> first | exact hv.elim | (cases z <;> first | exact hz.elim | rfl | skip)
 all_goals (cases x <;> rfl)
theorem eq_fin2 {n : Bool} {op : BinOp} (hop : op = if n then .neq else .eql) {t : TypeId} {x y : Operand} {u : TypeId} (ho : o.op = .binOp op t x y u) {v z : Value} (hx : ρ x = v) (hy : ρ y = z) {b : Bool}
  (hg : (eqGuard op t x y v z).run P w = .ok () w) (hnum : binOp .eql t v z = (do pure (.bool (← Op.equal t v z))) /\ binOp .neq t v z = (do pure (.bool (!(← Op.equal t v z)))))
  (h : (Op.equal t v z).run P w = .ok b w) : (execOp ρ o).run P w = .ok (.value (.bool (n != b))) w := by
 simp only [execOp, ho, hx, hy]
 refine fin_v ?_
 rw [run_bindok hg]
 cases n <;> simp at hop <;> subst hop
 ·rw [hnum.1]; simp only [Sem.run_bind, h, Result.andThen, Sem.run_pure]; simp
 ·rw [hnum.2]; simp only [Sem.run_bind, h, Result.andThen, Sem.run_pure]; simp
theorem ptrEq (d : Nat) {t e : TypeId} (hu : P.underlying t = some (.pointer e)) {a b : Value} (ha : isPt a) (hb : isPt b) (h : isNilV a = true \/ isNilV b = true) :
  (Op.equalIn (d + 1) t a b).run P w = .ok (isNilV a && isNilV b) w := by
 simp only [Op.equalIn, Sem.run_bind, run_underlying hu, Result.andThen]
 cases a <;> first | exact ha.elim | skip
 cases b <;> first | exact hb.elim | skip
 rename_i p q
 cases p with
 | none => cases q <;> rfl
 | some p => cases q with
  | none => rfl
  | some q => simp [isNilV] at h
theorem forIn_eq_run (f : Nat -> Sem Bool) (g : Nat -> Bool) : ∀ (l : List Nat), (∀ i ∈ l, (f i).run P w = .ok (g i) w) →
  (forIn l ((none, ()) : Option Bool × Unit) (fun i _ => do
   let b <- f i
   if (!b) = true then pure (ForInStep.done (some false, ())) else pure (ForInStep.yield (none, ())) : Nat -> Option Bool × Unit -> Sem (ForInStep (Option Bool × Unit)))).run P w = .ok ((if l.all g then none else some false), ()) w
 | [], _ => by simp
 | i :: l, h => by
  have h1 := h i (by simp)
  have ih := forIn_eq_run f g l (fun j hj => h j (by simp [hj]))
  rw [List.forIn_cons]
  simp only [bind_assoc, Sem.run_bind, h1, Result.andThen]
  cases hg : g i
  ·simp
   simp [hg]
  ·simp only [Bool.not_true, Bool.false_eq_true, if_false, Sem.run_pure]
   rw [ih]
   simp [hg]
theorem part_int {e : TypeId} {k : IntKind} (he : P.underlying e = some (.int k)) {xs : Array Value} {i : Nat} (hi : i < xs.size) (w : World) : (part e xs i).run P w = .ok xs[i] w := by
 have : (isAgg e).run P w = .ok false w := by simp only [isAgg, Sem.run_bind, run_underlying he, Result.andThen, Sem.run_pure]
 simp [part, Sem.run_bind, this, Result.andThen, hi]
theorem equalIn_int' (d : Nat) {e : TypeId} {k : IntKind} (he : P.underlying e = some (.int k)) {x y : Value} (hx : isI k x) (hy : isI k y) (w : World) : (Op.equalIn (d + 1) e x y).run P w = .ok (x.i == y.i) w := by
 rw [isI_spec hx, isI_spec hy]
 simp only [Op.equalIn, Sem.run_bind, run_underlying he, Result.andThen, if_true, Sem.run_pure, Value.i]
theorem all_range_eq (xs ys : Array Value) (n : Nat) (hx : xs.size = n) (hy : ys.size = n) :
  ((List.range n).all fun i => ((xs[i]?.getD undef).i == (ys[i]?.getD undef).i)) = (xs.toList.map Value.i == ys.toList.map Value.i) := by
 rw [Bool.eq_iff_iff]
 simp only [List.all_eq_true, List.mem_range, beq_iff_eq]
 constructor
 ·intro h
  apply List.ext_getElem
  ·simp [hx, hy]
  ·intro i h1 h2
   have hi : i < n := by simpa [hx] using h1
   have := h i hi
   simpa [hx, hy, hi] using this
 ·intro h i hi
  have e : (xs.toList.map Value.i)[i]? = (ys.toList.map Value.i)[i]? := by rw [h]
  have h1 : i < xs.size := by omega
  have h2 : i < ys.size := by omega
  simp only [List.getElem?_map, Array.getElem?_toList, h1, h2, Array.getElem?_eq_getElem, Option.map_some, Option.some.injEq] at e
  simpa [h1, h2] using e
theorem arrEq0 (D : Nat) {t e : TypeId} {len : Nat} {k : IntKind} (hu : P.underlying t = some (.array len e)) (he : P.underlying e = some (.int k)) (hs : P.cellsOf e = 1) {xs ys : Array Value} (hx : xs.size = len) (hy : ys.size = len)
  (h1 : ∀ x ∈ xs, isI k x) (h2 : ∀ x ∈ ys, isI k x) (hD : ∀ x y, isI k x -> isI k y -> (Op.equalIn D e x y).run P w = .ok (x.i == y.i) w) : (Op.equalIn (D + 1) t (.agg xs) (.agg ys)).run P w = .ok (xs.toList.map Value.i == ys.toList.map Value.i) w := by
 have hsz := sizeOf_run P e (by omega) w
 simp only [Op.equalIn, Sem.run_bind, run_underlying hu, Result.andThen, hsz, hs, Nat.mul_one]
 rw [Std.Legacy.Range.forIn_eq_forIn_range']
 have hl : List.range' 0 (Std.Legacy.Range.size [:len]) 1 = List.range len := by rw [List.range_eq_range']; simp [Std.Legacy.Range.size]
 have key := forIn_eq_run (P := P) (w := w) (fun i => do
   let a <- part e xs i
   let b <- part e ys i
   Op.equalIn D e a b) (fun i => ((xs[i]?.getD undef).i == (ys[i]?.getD undef).i)) (List.range len) ?_
 ·simp only [bind_assoc] at key
  rw [show ([:len] : Std.Legacy.Range).start = 0 from rfl, show ([:len] : Std.Legacy.Range).step = 1 from rfl, hl, key, all_range_eq xs ys len hx hy]
  cases (xs.toList.map Value.i == ys.toList.map Value.i) <;> rfl
 ·intro i hi
  have hi : i < len := List.mem_range.1 hi
  have a1 : i < xs.size := by omega
  have a2 : i < ys.size := by omega
  rw [run_bindok (part_int he a1 w), run_bindok (part_int he a2 w), hD _ _ (h1 _ (Array.getElem_mem a1)) (h2 _ (Array.getElem_mem a2))]
  simp [a1, a2]
theorem arrEq (d : Nat) {t e : TypeId} {len : Nat} {k : IntKind} (hu : P.underlying t = some (.array len e)) (he : P.underlying e = some (.int k)) (hs : P.cellsOf e = 1) {xs ys : Array Value} (hx : xs.size = len) (hy : ys.size = len)
  (h1 : ∀ x ∈ xs, isI k x) (h2 : ∀ x ∈ ys, isI k x) : (Op.equalIn (d + 2) t (.agg xs) (.agg ys)).run P w = .ok (xs.toList.map Value.i == ys.toList.map Value.i) w :=
 arrEq0 (d + 1) hu he hs hx hy h1 h2 fun _ _ a b => equalIn_int' d he a b w
theorem eqGuardType_arr {t e : TypeId} {len : Nat} {k : IntKind} (hu : P.underlying t = some (.array len e)) (he : P.underlying e = some (.int k)) (d : Nat) : P.eqGuardType (d + 2) t = false := by
 simp only [Program.eqGuardType, hu, he]
theorem eqGuard_arr (op : BinOp) {t e : TypeId} {len : Nat} {k : IntKind} (hu : P.underlying t = some (.array len e)) (he : P.underlying e = some (.int k)) (x y : Operand) (xs ys : Array Value) :
  (eqGuard op t x y (.agg xs) (.agg ys)).run P w = .ok () w := by
 have : P.eqGuardType P.depth t = false := by unfold Program.depth; exact eqGuardType_arr hu he _
 exact run_eqGuard_agg (w := w) op t x y xs ys this
theorem part_plain {e : TypeId} (he : (∃ k, P.underlying e = some (.int k)) \/ P.underlying e = some .string) {xs : Array Value} {i : Nat} (hi : i < xs.toList.length) (w : World) : (part e xs i).run P w = .ok (xs.toList.getD i undef) w := by
 have : (isAgg e).run P w = .ok false w := by
  rcases he with ⟨k, he⟩ | he <;> simp only [isAgg, Sem.run_bind, run_underlying he, Result.andThen, Sem.run_pure]
 have hi' : i < xs.size := by simpa using hi
 have e2 : xs.toList.getD i undef = xs[i] := by rw [List.getD_eq_getElem?_getD]; simp [hi']
 rw [e2]
 simp [part, Sem.run_bind, this, Result.andThen, hi']
theorem eqFields_run (d : Nat) {xs ys : Array Value} (w : World) : ∀ (fs : List Field) (l : List (Nat × Option IntKind)), trFs P fs = some l -> okFs l xs.toList -> okFs l ys.toList -> (Op.eqFields (d + 1) xs ys fs).run P w = .ok (eqFs l xs.toList ys.toList) w
 | [], l, h, _, _ => by cases h; simp [Op.eqFields, eqFs]
 | f :: fs, l, h, h1, h2 => by
  simp only [trFs] at h
  split at h
  ·cases h
  ·rename_i hn
   split at h
   ·rename_i k hk
    obtain ⟨l', hl, rfl⟩ := Option.map_eq_some_iff.1 h
    obtain ⟨⟨a1, a2⟩, a3⟩ := h1
    obtain ⟨⟨b1, b2⟩, b3⟩ := h2
    have ih := eqFields_run d w fs l' hl a3 b3
    simp only [Op.eqFields, hn, ne_eq, not_false_eq_true, if_true]
    rw [run_bindok (part_plain (.inl ⟨k, hk⟩) a1 w), run_bindok (part_plain (.inl ⟨k, hk⟩) b1 w), run_bindok (equalIn_int' d hk a2 b2 w)]
    rw [eqFs]
    cases ((xs.toList.getD f.offset undef).i == (ys.toList.getD f.offset undef).i) <;> simp [ih]
   ·rename_i hk
    obtain ⟨l', hl, rfl⟩ := Option.map_eq_some_iff.1 h
    obtain ⟨⟨a1, a2⟩, a3⟩ := h1
    obtain ⟨⟨b1, b2⟩, b3⟩ := h2
    have ih := eqFields_run d w fs l' hl a3 b3
    have hs : (Op.equalIn (d + 1) f.type (xs.toList.getD f.offset undef) (ys.toList.getD f.offset undef)).run P w = .ok ((xs.toList.getD f.offset undef).s.toList == (ys.toList.getD f.offset undef).s.toList) w := by
     rw [isS_spec a2, isS_spec b2]
     exact run_equalIn_string w d f.type _ _ hk
    simp only [Op.eqFields, hn, ne_eq, not_false_eq_true, if_true]
    rw [run_bindok (part_plain (.inr hk) a1 w), run_bindok (part_plain (.inr hk) b1 w), run_bindok hs]
    rw [eqFs]
    cases ((xs.toList.getD f.offset undef).s.toList == (ys.toList.getD f.offset undef).s.toList) <;> simp [ih]
   ·cases h
theorem trFs_guard (d : Nat) : ∀ (fs : List Field) (l : List (Nat × Option IntKind)), trFs P fs = some l -> (fs.any fun f => f.name != "_" && P.eqGuardType (d + 1) f.type) = false
 | [], _, _ => rfl
 | f :: fs, l, h => by
  simp only [trFs] at h
  split at h
  ·cases h
  ·split at h
   ·rename_i k hk
    obtain ⟨l', hl, rfl⟩ := Option.map_eq_some_iff.1 h
    rw [List.any_cons, trFs_guard d fs l' hl, Bool.or_false]
    simp only [Program.eqGuardType, hk, Bool.and_false]
   ·rename_i hk
    obtain ⟨l', hl, rfl⟩ := Option.map_eq_some_iff.1 h
    rw [List.any_cons, trFs_guard d fs l' hl, Bool.or_false]
    simp only [Program.eqGuardType, hk, Bool.and_false]
   ·cases h
theorem eqGuard_str2 (op : BinOp) {t : TypeId} {fs : Array Field} {l : List (Nat × Option IntKind)} (hu : P.underlying t = some (.struct fs)) (hl : trFs P fs.toList = some l) (x y : Operand) (xs ys : Array Value) :
  (eqGuard op t x y (.agg xs) (.agg ys)).run P w = .ok () w := by
 have : P.eqGuardType P.depth t = false := by
  unfold Program.depth
  simp only [Program.eqGuardType, hu]
  rw [<- Array.any_toList]
  exact trFs_guard _ _ _ hl
 exact run_eqGuard_agg (w := w) op t x y xs ys this
theorem pmEq_sound {n : Bool} {op : BinOp} (hop : op = if n then .neq else .eql) {t : TypeId} {x y : Operand} {u : TypeId} (ho : o.op = .binOp op t x y u) {q : PM} (hq : pmEq P tr n t x y = some q)
  (htr : ∀ y z, tr y = some z -> ρ y = r z) (hc : ∀ v, ρ (.const v) = v) (hpre : q.pre r w.heap) : (execOp ρ o).run P w = .ok (.value (q.val r w.heap)) w := by
 unfold pmEq at hq
 split at hq
 ·cases hq
 ·rename_i td hu
  split at hq
  ·rename_i k hk
   split at hq
   ·rename_i hf
    obtain ⟨a, ha, rfl⟩ := Option.map_eq_some_iff.1 hq
    obtain ⟨z, hy, hz⟩ := nilOf_eval hk
    have ex := htr _ _ ha
    have ey : ρ y = z := by rw [hy]; exact hc z
    exact eq_fin2 hop ho ex ey (eqGuard_nil op t x y hy hpre hz) (binOp_nil hpre hz t) (equal_run fun d => nilEq (d + 2) hu hf hpre hz)
   ·cases hq
  ·split at hq
   ·simp only [Option.bind_eq_some_iff] at hq
    obtain ⟨a, ha, b, hb, hq⟩ := hq
    cases hq
    obtain ⟨h1, h2, h3⟩ := hpre
    refine eq_fin2 hop ho (htr _ _ ha) (htr _ _ hb) ?_ ?_ (equal_run fun d => ptrEq (d + 2) hu h1 h2 h3)
    ·refine eqGuard_pt op t x y _ _ ⟨?_, ?_⟩
     ·intro xs hx; rw [hx] at h1; exact h1.elim
     ·intro hx; rw [hx] at h1; exact h1.elim
    ·generalize r a = a' at *; generalize r b = b' at *
     cases a' <;> first | exact h1.elim | skip
     cases b' <;> first | exact h2.elim | exact ⟨rfl, rfl⟩
   ·rename_i len e _
    split at hq
    ·rename_i k hk
     split at hq
     ·rename_i hs
      simp only [Option.bind_eq_some_iff] at hq
      obtain ⟨a, ha, b, hb, hq⟩ := hq
      cases hq
      obtain ⟨h1, h2, h3, h4, h5, h6⟩ := hpre
      refine eq_fin2 hop ho ((htr _ _ ha).trans (isAg_spec h1)) ((htr _ _ hb).trans (isAg_spec h2)) (eqGuard_arr op hu hk x y _ _) ⟨rfl, rfl⟩ (equal_run fun d => arrEq (d + 1) hu hk hs h3 h4 h5 h6)
     ·cases hq
    ·cases hq
   ·rename_i fs
    split at hq
    ·cases hq
    ·rename_i hst
     simp only [Option.bind_eq_some_iff] at hq
     obtain ⟨l, hl, a, ha, b, hb, hq⟩ := hq
     cases hq
     obtain ⟨⟨h1, h2⟩, h3, h4⟩ := hpre
     have hfs : P.fieldsOf t = fs := by simp [Program.fieldsOf, hu]
     have ea := isAg_spec h1
     have eb := isAg_spec h2
     have e1 : gL (r a) = (r a).g.toList := by rw [ea]; rfl
     have e2 : gL (r b) = (r b).g.toList := by rw [eb]; rfl
     rw [e1] at h3
     rw [e2] at h4
     refine eq_fin2 hop ho ((htr _ _ ha).trans ea) ((htr _ _ hb).trans eb) (eqGuard_str2 op hu hl x y _ _) ⟨rfl, rfl⟩ (equal_run fun d => ?_)
     rw [show d + 3 = (d + 2) + 1 from rfl, run_equalIn_agg w (d + 2) t _ _ (by rw [hfs]; exact hu) (by simpa using hst), hfs, e1, e2]
     exact eqFields_run (d + 1) w _ _ hl h3 h4
   ·cases hq
end
end Go.Mg
namespace Go.Mg
open Go Go.RowKit
section
variable {P : Program} {o : Oper} {w : World} {ρ : Operand -> Value} {tr : Operand -> Option A} {r : A -> Value}
theorem trO_spec {x : Option Operand} {y : Option A} (h : trO tr x = some y) (htr : ∀ y z, tr y = some z -> ρ y = r z) : x.map ρ = y.map r := by
 cases x with
 | none => cases h; rfl
 | some x => obtain ⟨z, hz, rfl⟩ := Option.map_eq_some_iff.1 h; simp [htr _ _ hz]
theorem bound_run {v : Value} (hv : isInt v) {y : Nat} {c : BoundsCode} (h0 : 0 <= v.i) (h1 : v.i <= y) : (Instr.sliceBound v y c).run P w = .ok v.i.toNat w := by
 obtain ⟨k, hk⟩ := isInt_spec hv
 generalize hn : v.i = n at *
 rw [hk]
 simp only [Instr.sliceBound, asIntOf, Sem.run_bind, Sem.run_pure, Result.andThen, h0, h1, and_self, if_true]
theorem bounds_run {b : Bool} {len cap : Nat} {lo hi : Option A} (hl : okI r lo) (hh : okI r hi) (h : okLH len cap (oi r lo) (oi r hi)) :
  (Instr.sliceBounds b len cap (lo.map r) (hi.map r) none).run P w = .ok (loN (oi r lo), hiN len (oi r hi), cap) w := by
 cases lo with
 | none => cases hi with
  | none => rfl
  | some y =>
   obtain ⟨h1, h2⟩ := h
   simp only [Instr.sliceBounds, Sem.run_bind, Sem.run_pure, Result.andThen, Option.map_some, Option.map_none, bound_run hh h1 h2]
   rfl
 | some x => cases hi with
  | none =>
   obtain ⟨h1, h2⟩ := h
   simp only [Instr.sliceBounds, Sem.run_bind, Sem.run_pure, Result.andThen, Option.map_some, Option.map_none, bound_run hl h1 h2]
   rfl
  | some y =>
   obtain ⟨h1, h2, h3⟩ := h
   simp only [Instr.sliceBounds, Sem.run_bind, Sem.run_pure, Result.andThen, Option.map_some]
   have h1 : 0 <= (r x).i := h1
   have h2 : (r x).i <= (r y).i := h2
   rw [bound_run hh (by omega) h3]
   simp only
   rw [bound_run hl h1 (by omega)]
   rfl
theorem bounds3_run {b : Bool} {len cap : Nat} {lo : Option A} {hi mx : A} (hl : okI r lo) (hh : isInt (r hi)) (hm : isInt (r mx)) (h1 : 0 <= (oi r lo).getD 0) (h2 : (oi r lo).getD 0 <= (r hi).i) (h3 : (r hi).i <= (r mx).i) (h4 : (r mx).i <= cap) :
  (Instr.sliceBounds b len cap (lo.map r) (some (r hi)) (some (r mx))).run P w = .ok (loN (oi r lo), (r hi).i.toNat, (r mx).i.toNat) w := by
 cases lo with
 | none =>
  have h1' : (0 : Int) <= (r hi).i := h2
  simp only [Instr.sliceBounds, Sem.run_bind, Sem.run_pure, Result.andThen, Option.map_none]
  rw [bound_run hm (by omega) h4]
  simp only
  rw [bound_run hh h1' (by omega)]
  rfl
 | some x =>
  have h1' : 0 <= (r x).i := h1
  have h2' : (r x).i <= (r hi).i := h2
  simp only [Instr.sliceBounds, Sem.run_bind, Sem.run_pure, Result.andThen, Option.map_some]
  rw [bound_run hm (by omega) h4]
  simp only
  rw [bound_run hh (by omega) (by omega)]
  simp only
  rw [bound_run hl h1' (by omega)]
  rfl
theorem b2s_list : ∀ (l : List Value), (∀ x ∈ l, isI .u8 x) -> (l.map Value.i).map (Value.int .u8) = l
 | [], _ => rfl
 | x :: l, h => by
  have e := isI_spec (h x (by simp))
  simp only [List.map_cons]
  rw [b2s_list l (fun y hy => h y (by simp [hy])), <- e]
theorem b2s_fold : ∀ (l : List Value) (q : ByteArray), (l.map Value.i).foldl (fun q n => q.push (UInt8.ofNat n.toNat)) q = ⟨q.data ++ (l.map fun v => UInt8.ofNat v.i.toNat).toArray⟩
 | [], q => by simp
 | x :: l, q => by
  simp only [List.map_cons, List.foldl_cons]
  rw [b2s_fold l]
  simp [ByteArray.push]
theorem b2s_run {s t e : TypeId} {v : Value} (hs : P.underlying s = some (.slice e)) (ht : P.underlying t = some .string) (he : P.underlying e = some (.int .u8)) (h : okB2s w.heap v) :
  (convert s t v).run P w = .ok (.string (toBA ((bytesIn w.heap v).getD #[]))) w := by
 obtain ⟨xs, hx, hb⟩ := h
 rw [hx, Option.getD_some]
 cases v with
 | slice a n c =>
  rw [run_convert_bytes_string w s t e a n c hs he ht]
  cases a with
  | none => cases hx; simp [Conv.bytesToString, Sem.run_pure, toBA]; rfl
  | some p =>
   have hl : (loadCells p n).run P w = .ok xs w := by
    simp only [bytesIn] at hx
    split at hx
    ·rename_i h0; subst h0; cases hx; rfl
    ·exact ldN_run hx
   have hz := b2s_list xs.toList hb
   have hxs : xs = ((xs.toList.map Value.i).map (Value.int .u8)).toArray := by rw [hz]
   rw [hxs] at hl
   rw [run_bytesToString w p n c _ hl, b2s_fold]
   congr 2
   apply ByteArray.ext
   simp only [toBA]
   apply Array.ext'
   simp
 | _ => cases hx
theorem foldl_wrA : ∀ (xs : List Value) (j : Nat) (C : Array Value) (off : Nat), off + j + xs.length <= C.size -> (xs.zipIdx j).foldl (fun cs (x : Value × Nat) => cs.setIfInBounds (off + x.2) x.1) C = wrA C (off + j) xs
 | [], j, C, off, _ => by simp [wrA_nil]
 | x :: xs, j, C, off, h => by
  simp only [List.length_cons] at h
  simp only [List.zipIdx_cons, List.foldl_cons]
  rw [foldl_wrA xs (j + 1) _ off (by simp; omega), <- wrA_cons (x := x) (by omega)]
  rfl
theorem fill_run {place : Nat -> Option (Nat × Nat)} : ∀ {parts : List (Nat × Operand)} {ps : List (Nat × Nat × A)} (C : Array Value), trParts tr place parts = some ps -> (∀ y z, tr y = some z -> ρ y = r z) -> okFill r C.size ps →
  Instr.fill place C (parts.map fun p => (p.1, ρ p.2)) = some (fillV r C ps)
 | [], ps, C, h, _, _ => by cases h; rfl
 | (i, x) :: l, ps, C, h, htr, hok => by
  simp only [trParts] at h
  obtain ⟨p, hp, h⟩ := Option.bind_eq_some_iff.1 h
  obtain ⟨a, ha, h⟩ := Option.bind_eq_some_iff.1 h
  obtain ⟨ps', hps, rfl⟩ := Option.map_eq_some_iff.1 h
  obtain ⟨h1, h2, h3⟩ := hok
  obtain ⟨off, size⟩ := p
  simp only at h1 h2 h3
  have hlen : off + (r a).cells.toList.length <= C.size := by simp [h1]; exact h2
  have e : (r a).cells.zipIdx.foldl (fun cs (x : Value × Nat) => cs.setIfInBounds (off + x.2) x.1) C = wrA C off (r a).cells.toList := by
   rw [<- Array.foldl_toList, Array.toList_zipIdx]
   exact foldl_wrA _ 0 C off (by omega)
  have ih := fill_run (place := place) (wrA C off (r a).cells.toList) hps htr (by rw [wrA_size hlen]; exact h3)
  have hc : ((decide ((r a).cells.size ≠ size)) || decide (off + (r a).cells.size > C.size)) = false := by
   simp [h1]; omega
  simp only [List.map_cons, Instr.fill, hp, htr _ _ ha, hc, Bool.false_eq_true, if_false, fillV]
  rw [<- ih, <- e]
theorem builtin_run {b : Builtin} {args : Array Operand} {ts : Array TypeId} (ho : o.op = .call { callee := .builtin b, args := args, argTypes := ts }) {s : Sem Value} {v : Value}
  (hb : ∀ cs vs, builtin b ts o.type cs vs = (do pure (.value (← (match b with | .len => Builtin.len_ ts o.type vs | .cap => Builtin.cap_ ts o.type vs | .min => Builtin.min_ ts o.type vs | .max => Builtin.max_ ts o.type vs | _ => s)))))
  (h : (match b with | .len => Builtin.len_ ts o.type (args.map ρ) | .cap => Builtin.cap_ ts o.type (args.map ρ) | .min => Builtin.min_ ts o.type (args.map ρ) | .max => Builtin.max_ ts o.type (args.map ρ) | _ => s).run P w = .ok v w) :
  (execOp ρ o).run P w = .ok (.value v) w := by
 simp only [execOp, ho, resolve, Sem.run_bind, Sem.run_pure, Result.andThen, invoke]
 rw [hb]
 exact fin_v h
theorem trLs_spec {l : List Operand} {as : List A} (h : trLs tr l = some as) (htr : ∀ y z, tr y = some z -> ρ y = r z) : l.map ρ = as.map r := by
 induction l generalizing as with
 | nil => cases h; rfl
 | cons x l ih =>
  simp only [trLs] at h
  obtain ⟨a, ha, h⟩ := Option.bind_eq_some_iff.1 h
  obtain ⟨b, hb, rfl⟩ := Option.map_eq_some_iff.1 h
  simp [htr _ _ ha, ih hb]
theorem checkKey_string (e : Bool) {t : TypeId} (ht : P.underlying t = some .string) (n : Nat) (v : Value) : (Instr.checkKey e (n + 1) t v).run P w = .ok () w := by
 unfold Instr.checkKey
 simp only [Sem.run_bind, run_underlying ht, Result.andThen]
 rfl
theorem findNow_string (k : ByteArray) : ∀ (es : List MapEntry) (i : Nat), (∀ e ∈ es, isS e.key) -> ∃ x, Instr.findNow .string (.string k) es i = some x /\ x.map (·.2) = findE k es
 | [], i, _ => ⟨none, rfl, rfl⟩
 | e :: es, i, h => by
  have hk := isS_spec (h e (by simp))
  unfold Instr.findNow
  rw [hk]
  simp only [Instr.sameNow]
  by_cases hb : (k == e.key.s) = true
  ·rw [hb]
   refine ⟨_, rfl, ?_⟩
   simp [findE, List.find?, hb]
  ·have hb' : (k == e.key.s) = false := by simpa using hb
   rw [hb']
   obtain ⟨x, h1, h2⟩ := findNow_string k es (i + 1) (fun e he => h e (by simp [he]))
   refine ⟨x, h1, ?_⟩
   rw [h2]
   simp [findE, List.find?, hb']
theorem findNow_int (kk : IntKind) (n : Int) : ∀ (es : List MapEntry) (i : Nat), (∀ e ∈ es, isI kk e.key) -> ∃ x, Instr.findNow (.int kk) (.int kk n) es i = some x /\ x.map (·.2) = findI n es /\ x.map (·.1) = (es.findIdx? fun e => n == e.key.i).map (· + i)
 | [], i, _ => ⟨none, rfl, rfl, rfl⟩
 | e :: es, i, h => by
  have hk := isI_spec (h e (by simp))
  unfold Instr.findNow
  rw [hk]
  simp only [Instr.sameNow, if_true]
  by_cases hb : (n == e.key.i) = true
  ·rw [hb]
   refine ⟨_, rfl, ?_, ?_⟩
   ·simp [findI, List.find?, hb]
   ·simp [List.findIdx?_cons, hb]
  ·have hb' : (n == e.key.i) = false := by simpa using hb
   rw [hb']
   obtain ⟨x, h1, h2, h3⟩ := findNow_int kk n es (i + 1) (fun e he => h e (by simp [he]))
   refine ⟨x, h1, ?_, ?_⟩
   ·rw [h2]
    simp [findI, List.find?, hb']
   ·rw [h3, List.findIdx?_cons, hb']
    cases es.findIdx? (fun e => n == e.key.i) with
    | none => rfl
    | some j => simp; omega
theorem checkKey_int (e : Bool) {kk : IntKind} {t : TypeId} (ht : P.underlying t = some (.int kk)) (n : Nat) (v : Value) : (Instr.checkKey e (n + 1) t v).run P w = .ok () w := by
 unfold Instr.checkKey
 simp only [Sem.run_bind, run_underlying ht, Result.andThen]
 rfl
theorem mapIn_spec {H : Hp} {v : Value} {es : List MapEntry} (h : mapIn H v = some es) : (v = .map none /\ es = []) \/ ∃ b a c, v = .map (some b) /\ H[b]? = some (.map a c) /\ es = a.toList := by
 cases v with
 | map o =>
  cases o with
  | none => left; simp [mapIn] at h; exact ⟨rfl, h⟩
  | some b =>
   right
   simp only [mapIn] at h
   cases hb : H[b]? with
   | none => rw [hb] at h; cases h
   | some o =>
    rw [hb] at h
    cases o with
    | map a c => cases h; exact ⟨b, a, c, rfl, hb, rfl⟩
    | _ => cases h
 | _ => simp [mapIn] at h
theorem lookup_run {t k e : TypeId} {z : Value} {m : Value} {kv : Value} {es : List MapEntry} {ok : Bool} (ht : P.underlying t = some (.map k e)) (hk : P.underlying k = some .string) (hz : (P.info? e).bind (·.zero) = some z)
  (hm : mapIn w.heap m = some es) (hs : ∀ e ∈ es, isS e.key) (hkv : isS kv) :
  (Instr.lookup t m kv ok).run P w = .ok (if ok = true then .tuple #[(findE kv.s es).getD z, .bool (findE kv.s es).isSome] else (findE kv.s es).getD z) w := by
 obtain ⟨i, hi, hz⟩ := Option.bind_eq_some_iff.1 hz
 have hzero : (zeroValue e).run P w = .ok z w := by simp [zeroValue, typeInfo, program, Sem.run, hi, hz, Sem.run_bind, Result.andThen]
 have hkv := isS_spec hkv
 generalize kv.s = q at *
 subst hkv
 obtain ⟨x, h1, h2⟩ := findNow_string q es 0 hs
 have hck : ∀ e : Bool, (Instr.checkKey e 10000 k (.string q)).run P w = .ok () w := fun e => checkKey_string e hk 9999 _
 have hfk : ∀ l : List MapEntry, l = es -> (Instr.findKey k (.string q) l).run P w = .ok x w := fun l hl => by
  subst hl
  simp only [Instr.findKey, Sem.run_bind, run_underlying hk, Result.andThen, h1, Sem.run_pure]
 have e0 : findE q es = x.map (·.2) := h2.symm
 unfold Instr.lookup
 rw [e0]
 rcases mapIn_spec hm with ⟨rfl, rfl⟩ | ⟨b, a, c, rfl, hb, rfl⟩
 ·simp only [Sem.run_bind, run_underlying ht, Result.andThen, Sem.run_pure, hck, hfk [] rfl]
  cases x with
  | none => simp only [hzero, Sem.run_bind, Result.andThen, Sem.run_pure]; cases ok <;> rfl
  | some p => obtain ⟨i, v⟩ := p; simp only [Sem.run_pure, Sem.run_bind, Result.andThen]; cases ok <;> rfl
 ·have hg : (getObj b).run P w = .ok (.map a c) w := by simp [getObj, Sem.run, hb]
  simp only [Sem.run_bind, run_underlying ht, Result.andThen, hg, Sem.run_pure, hck, hfk a.toList rfl]
  cases x with
  | none => simp only [hzero, Sem.run_bind, Result.andThen, Sem.run_pure]; cases ok <;> rfl
  | some p => obtain ⟨i, v⟩ := p; simp only [Sem.run_pure, Sem.run_bind, Result.andThen]; cases ok <;> rfl
theorem lookupI_run {t k e : TypeId} {kk : IntKind} {z : Value} {m : Value} {kv : Value} {es : List MapEntry} (ht : P.underlying t = some (.map k e)) (hk : P.underlying k = some (.int kk)) (hz : (P.info? e).bind (·.zero) = some z)
  (hm : mapIn w.heap m = some es) (hs : ∀ e ∈ es, isI kk e.key) (hkv : isI kk kv) :
  (Instr.lookup t m kv false).run P w = .ok ((findI kv.i es).getD z) w := by
 obtain ⟨i, hi, hz⟩ := Option.bind_eq_some_iff.1 hz
 have hzero : (zeroValue e).run P w = .ok z w := by simp [zeroValue, typeInfo, program, Sem.run, hi, hz, Sem.run_bind, Result.andThen]
 have hkv := isI_spec hkv
 generalize kv.i = q at *
 subst hkv
 obtain ⟨x, h1, h2, -⟩ := findNow_int kk q es 0 hs
 have hck : ∀ e : Bool, (Instr.checkKey e 10000 k (.int kk q)).run P w = .ok () w := fun e => checkKey_int e hk 9999 _
 have hfk : ∀ l : List MapEntry, l = es -> (Instr.findKey k (.int kk q) l).run P w = .ok x w := fun l hl => by
  subst hl
  simp only [Instr.findKey, Sem.run_bind, run_underlying hk, Result.andThen, h1, Sem.run_pure]
 have e0 : findI q es = x.map (·.2) := h2.symm
 unfold Instr.lookup
 rw [e0]
 rcases mapIn_spec hm with ⟨rfl, rfl⟩ | ⟨b, a, c, rfl, hb, rfl⟩
 ·simp only [Sem.run_bind, run_underlying ht, Result.andThen, Sem.run_pure, hck, hfk [] rfl]
  cases x with
  | none => simp only [hzero, Sem.run_bind, Result.andThen, Sem.run_pure]; rfl
  | some p => obtain ⟨i, v⟩ := p; simp only [Sem.run_pure, Sem.run_bind, Result.andThen]; rfl
 ·have hg : (getObj b).run P w = .ok (.map a c) w := by simp [getObj, Sem.run, hb]
  simp only [Sem.run_bind, run_underlying ht, Result.andThen, hg, Sem.run_pure, hck, hfk a.toList rfl]
  cases x with
  | none => simp only [hzero, Sem.run_bind, Result.andThen, Sem.run_pure]; rfl
  | some p => obtain ⟨i, v⟩ := p; simp only [Sem.run_pure, Sem.run_bind, Result.andThen]; rfl
theorem trLs_map {l : List Operand} {m : List A} (htr : ∀ y z, tr y = some z -> ρ y = r z) (h : trLs tr l = some m) : l.map ρ = m.map r := by
 induction l generalizing m with
 | nil => cases h; rfl
 | cons x l ih =>
  simp only [trLs] at h
  obtain ⟨a, ha, h⟩ := Option.bind_eq_some_iff.1 h
  obtain ⟨b, hb, rfl⟩ := Option.map_eq_some_iff.1 h
  simp [htr _ _ ha, ih hb]
theorem max_run (w : World) : ∀ (m : List A), (∀ b ∈ m, isInt (r b)) -> ∀ v, isInt v -> ((m.map r).foldlM Builtin.max2 v).run P w = .ok (.int (kindOf v) (mxF v.i (m.map fun b => (r b).i))) w
 | [], _, v, hv => by
  obtain ⟨k, hk⟩ := isInt_spec hv
  generalize v.i = i at *
  subst hk
  simp [mxF, kindOf]
 | b :: m, h, v, hv => by
  obtain ⟨k, hk⟩ := isInt_spec hv
  obtain ⟨k', hk'⟩ := isInt_spec (h b (by simp))
  have e : (Builtin.max2 v (r b)).run P w = .ok (.int k (if (r b).i > v.i then (r b).i else v.i)) w := by
   generalize v.i = i at *
   generalize (r b).i = j at *
   rw [hk, hk']
   simp [Builtin.max2]
  simp only [List.map_cons, List.foldlM_cons]
  rw [run_bindok e, max_run w m (fun c hc => h c (by simp [hc])) (.int k (if (r b).i > v.i then (r b).i else v.i)) trivial]
  have e2 : kindOf v = k := by rw [hk]; rfl
  rw [e2]; rfl
theorem pm_sound {q : PM} (hq : pm P tr o = some q) (htr : ∀ y z, tr y = some z -> ρ y = r z) (hc : ∀ v, ρ (.const v) = v) (hpre : q.pre r w.heap) :
  (execOp ρ o).run P w = .ok (.value (q.val r w.heap)) w := by
 unfold pm at hq
 split at hq
 ·-- load
  rename_i t x hop
  split at hq
  case isFalse => cases hq
  rename_i hag
  obtain ⟨a, ha, rfl⟩ := Option.map_eq_some_iff.1 hq
  obtain ⟨h1, h2⟩ := isAgg_aggr hag w
  simp only [execOp, hop, htr _ _ ha]
  refine fin_v ?_
  simp only [PM.pre] at hpre
  simp only [PM.val]
  obtain ⟨xs, hxs⟩ := Option.isSome_iff_exists.1 hpre
  rw [hxs]
  unfold ldNO at hxs
  split at hxs
  case h_2 => cases hxs
  rename_i p hp
  rw [hp]
  simp only [Instr.loadAt, Instr.sureAddr, Sem.run_bind, Sem.run_pure, Result.andThen, loadVar, h1, if_true, sizeOf_run' P t h2, ldN_run hxs, Option.getD_some]
 ·rename_i t x y u hop; exact pmEq_sound (op := .eql) rfl hop hq htr hc hpre
 ·rename_i t x y u hop; exact pmEq_sound (op := .neq) rfl hop hq htr hc hpre
 ·-- slice
  rename_i t x lo hi hop
  obtain ⟨a, ha, hq⟩ := Option.bind_eq_some_iff.1 hq
  obtain ⟨l, hl, hq⟩ := Option.bind_eq_some_iff.1 hq
  obtain ⟨h, hh, hq⟩ := Option.bind_eq_some_iff.1 hq
  have el := trO_spec hl htr
  have eh := trO_spec hh htr
  split at hq
  ·rename_i n e hu
   split at hq
   case isFalse => cases hq
   rename_i he
   cases hq
   obtain ⟨h1, h2, h3, h4⟩ := hpre
   obtain ⟨p, hp⟩ := isP_spec h1
   simp only [execOp, hop, htr _ _ ha, el, eh, PM.val]
   refine fin_v ?_
   rw [hp]
   simp only [Instr.sliceAt, Sem.run_bind, run_underlying hu, Result.andThen, Instr.sureAddr, Sem.run_pure, Option.map_none]
   rw [bounds_run h2 h3 h4]
   simp only [sizeOf_run' P e he, slaV]
  ·rename_i e hu
   split at hq
   case isFalse => cases hq
   rename_i he
   cases hq
   obtain ⟨h1, h2, h3, h4⟩ := hpre
   have hp := isSl_spec h1
   simp only [execOp, hop, htr _ _ ha, el, eh, PM.val]
   refine fin_v ?_
   generalize r a = v at *
   generalize adrV v = ad at *; generalize lenV v = ln at *; generalize capV v = cp at *
   subst hp
   simp only [Instr.sliceAt, Instr.slice, Sem.run_bind, run_underlying hu, Result.andThen, Sem.run_pure, Option.map_none]
   rw [bounds_run h2 h3 h4]
   simp only [sizeOf_run' P e he, slV]
  ·rename_i hu
   cases hq
   obtain ⟨h1, h2, h3, h4⟩ := hpre
   have hp := isS_spec h1
   simp only [execOp, hop, htr _ _ ha, el, eh, PM.val]
   refine fin_v ?_
   generalize r a = v at *
   generalize v.s = st at *
   subst hp
   simp only [Instr.sliceAt, Instr.slice, Sem.run_bind, run_underlying hu, Result.andThen, Sem.run_pure, Option.map_none, Option.isSome_none, Bool.false_eq_true, if_false]
   rw [bounds_run h2 h3 h4]
  ·cases hq
 ·-- len
  rename_i args ts hop
  split at hq
  case h_2 => cases hq
  rename_i x t ha ht
  obtain ⟨a, hx, hq⟩ := Option.bind_eq_some_iff.1 hq
  have e1 : args = #[x] := by cases args; simpa using ha
  have e2 : ts = #[t] := by cases ts; simpa using ht
  subst e1; subst e2
  refine builtin_run (s := pure undef) hop (fun _ _ => rfl) ?_
  simp only [List.map_toArray, List.map_cons, List.map_nil, htr _ _ hx]
  split at hq <;> cases hq
  ·rename_i hu
   have e := isS_spec (v := r a) hpre
   simp only [PM.val]
   generalize r a = v at *
   generalize v.s = q at *
   subst e
   simp [Builtin.len_, Sem.run_bind, run_underlying hu, Result.andThen, goInt]
  ·rename_i _ hu
   have e := isSl_spec (v := r a) hpre
   simp only [PM.val]
   generalize r a = v at *
   generalize adrV v = ad at *; generalize lenV v = ln at *; generalize capV v = cp at *
   subst e
   simp [Builtin.len_, Sem.run_bind, run_underlying hu, Result.andThen, goInt]
  ·rename_i _ _ hu
   simp only [PM.val]
   simp [Builtin.len_, Sem.run_bind, run_underlying hu, Result.andThen, goInt]
 ·-- cap
  rename_i args ts hop
  split at hq
  case h_2 => cases hq
  rename_i x t ha ht
  obtain ⟨a, hx, hq⟩ := Option.bind_eq_some_iff.1 hq
  have e1 : args = #[x] := by cases args; simpa using ha
  have e2 : ts = #[t] := by cases ts; simpa using ht
  subst e1; subst e2
  refine builtin_run (s := pure undef) hop (fun _ _ => rfl) ?_
  simp only [List.map_toArray, List.map_cons, List.map_nil, htr _ _ hx]
  split at hq <;> cases hq
  rename_i _ hu
  have e := isSl_spec (v := r a) hpre
  simp only [PM.val]
  generalize r a = v at *
  generalize adrV v = ad at *; generalize lenV v = ln at *; generalize capV v = cp at *
  subst e
  simp [Builtin.cap_, Sem.run_bind, run_underlying hu, Result.andThen, goInt]
 ·-- min
  rename_i args ts hop
  split at hq
  case h_2 => cases hq
  rename_i x y ha
  obtain ⟨a, hx, hq⟩ := Option.bind_eq_some_iff.1 hq
  obtain ⟨b, hy, hq⟩ := Option.bind_eq_some_iff.1 hq
  cases hq
  have e1 : args = #[x, y] := by cases args; simpa using ha
  subst e1
  obtain ⟨h1, h2⟩ := hpre
  refine builtin_run (s := pure undef) hop (fun _ _ => rfl) ?_
  simp only [List.map_toArray, List.map_cons, List.map_nil, htr _ _ hx, htr _ _ hy, PM.val]
  obtain ⟨k, hk⟩ := isInt_spec h1
  obtain ⟨k', hk'⟩ := isInt_spec h2
  generalize (r a).i = m at *
  generalize (r b).i = n at *
  rw [hk, hk']
  simp [Builtin.min_, Builtin.min2, kindOf]
 ·-- max
  rename_i args ts hop
  split at hq
  case h_3 => cases hq
  case h_2 =>
   rename_i x y z l ha
   obtain ⟨a, hx, hq⟩ := Option.bind_eq_some_iff.1 hq
   obtain ⟨m, hm, rfl⟩ := Option.map_eq_some_iff.1 hq
   have e1 : args = (x :: y :: z :: l).toArray := by cases args; simpa using ha
   subst e1
   obtain ⟨h1, h2⟩ := hpre
   refine builtin_run (s := pure undef) hop (fun _ _ => rfl) ?_
   have hl := trLs_map htr hm
   simp only [List.map_toArray, List.map_cons, htr _ _ hx, PM.val] at hl ⊢
   simp only [Builtin.max_]
   rw [hl]
   exact max_run (r := r) w m h2 (r a) h1
  rename_i x y ha
  obtain ⟨a, hx, hq⟩ := Option.bind_eq_some_iff.1 hq
  obtain ⟨b, hy, hq⟩ := Option.bind_eq_some_iff.1 hq
  cases hq
  have e1 : args = #[x, y] := by cases args; simpa using ha
  subst e1
  obtain ⟨h1, h2⟩ := hpre
  refine builtin_run (s := pure undef) hop (fun _ _ => rfl) ?_
  simp only [List.map_toArray, List.map_cons, List.map_nil, htr _ _ hx, htr _ _ hy, PM.val]
  obtain ⟨k, hk⟩ := isInt_spec h1
  obtain ⟨k', hk'⟩ := isInt_spec h2
  generalize (r a).i = m at *
  generalize (r b).i = n at *
  rw [hk, hk']
  simp [Builtin.max_, Builtin.max2, kindOf]
 ·-- index
  rename_i t x i hop
  obtain ⟨a, ha, hq⟩ := Option.bind_eq_some_iff.1 hq
  obtain ⟨j, hj, hq⟩ := Option.bind_eq_some_iff.1 hq
  have ea := htr _ _ ha
  have ej := htr _ _ hj
  split at hq
  ·rename_i n e hu
   split at hq
   ·rename_i hp1
    cases hq
    simp only [Bool.and_eq_true, beq_iff_eq] at hp1
    obtain ⟨h1, h2, h3, h4, h5⟩ := hpre
    obtain ⟨k, hk⟩ := isInt_spec h2
    simp only [execOp, hop, ea, ej, PM.val]
    refine fin_v ?_
    generalize hq' : (r j).i = q at *
    generalize hg' : (r a).g = cs at *
    rw [isAg_spec h1, hk, hg']
    have hcond : 0 <= q /\ q < (n : Int) := ⟨h3, h4⟩
    simp only [Instr.index, Sem.run_bind, asIntOf, run_underlying hu, Result.andThen, Sem.run_pure, hcond, and_self, if_true, sizeOf_run P e (show P.cellsOf e ≠ 0 by omega), hp1.2, part, isAgg_plain hp1.1, Bool.false_eq_true, if_false, Nat.mul_one]
    simp [h5]
   ·split at hq
    ·rename_i hag
     cases hq
     obtain ⟨h1, h2, h3, h4⟩ := hpre
     obtain ⟨k, hk⟩ := isInt_spec h2
     simp only [execOp, hop, ea, ej, PM.val]
     refine fin_v ?_
     generalize hq' : (r j).i = q at *
     generalize hg' : (r a).g = cs at *
     rw [isAg_spec h1, hk, hg']
     have hcond : 0 <= q /\ q < (n : Int) := ⟨h3, h4⟩
     obtain ⟨g1, g2⟩ := isAgg_aggr hag w
     simp only [Instr.index, Sem.run_bind, asIntOf, run_underlying hu, Result.andThen, Sem.run_pure, hcond, and_self, if_true, sizeOf_run' P e g2, part, g1]
    ·cases hq
  ·rename_i hu
   cases hq
   obtain ⟨h1, h2, h3, h4⟩ := hpre
   obtain ⟨k, hk⟩ := isInt_spec h2
   simp only [execOp, hop, ea, ej, PM.val]
   refine fin_v ?_
   generalize hq' : (r j).i = q at *
   generalize hg' : (r a).s = st at *
   rw [isS_spec h1, hk, hg']
   have hlt : q.toNat < st.size := by omega
   simp only [Instr.index, Sem.run_bind, asIntOf, run_underlying hu, Result.andThen, Sem.run_pure, h3, if_true]
   simp [hlt]
  ·cases hq
 ·-- field
  rename_i t x f hop
  obtain ⟨a, ha, hq⟩ := Option.bind_eq_some_iff.1 hq
  have ea := htr _ _ ha
  split at hq
  case h_2 => cases hq
  rename_i fs hu
  split at hq
  case h_2 => cases hq
  rename_i fd hf
  split at hq
  ·rename_i hp1
   cases hq
   obtain ⟨h1, h2⟩ := hpre
   simp only [execOp, hop, ea, PM.val]
   refine fin_v ?_
   generalize hg' : (r a).g = cs at *
   rw [isAg_spec h1, hg']
   simp only [Instr.field, Sem.run_bind, run_underlying hu, Result.andThen, hf, asAgg, Sem.run_pure, part, isAgg_plain hp1, Bool.false_eq_true, if_false]
   simp [h2]
  ·split at hq
   case isFalse => cases hq
   rename_i hag
   cases hq
   obtain ⟨g1, g2⟩ := isAgg_aggr hag w
   simp only [execOp, hop, ea, PM.val]
   refine fin_v ?_
   generalize hg' : (r a).g = cs at *
   rw [isAg_spec (v := r a) hpre, hg']
   simp only [Instr.field, Sem.run_bind, run_underlying hu, Result.andThen, hf, asAgg, Sem.run_pure, part, g1, if_true, sizeOf_run' P fd.type g2]
 ·-- build
  rename_i t parts hop
  split at hq
  case h_2 => cases hq
  rename_i z hz
  obtain ⟨i, hi, hz⟩ := Option.bind_eq_some_iff.1 hz
  have hzero : (zeroValue t).run P w = .ok z w := by simp [zeroValue, typeInfo, program, Sem.run, hi, hz, Sem.run_bind, Result.andThen]
  split at hq
  ·rename_i fs hu
   split at hq
   case isFalse => cases hq
   rename_i hall
   obtain ⟨ps, hps, rfl⟩ := Option.map_eq_some_iff.1 hq
   simp only [execOp, hop, PM.val]
   refine fin_v ?_
   have hf := fill_run z.cells hps htr hpre
   have hpl : (fs.mapM (fun f => do pure (f.offset, <- sizeOf f.type) : Field -> Sem (Nat × Nat))).run P w = .ok (fs.map fun f => (f.offset, P.cellsOf f.type)) w := by
    rw [Array.mapM_eq_mapM_toList]
    have key : ∀ l : List Field, (∀ f ∈ l, (P.info? f.type).isSome = true) -> (l.mapM (fun f => do pure (f.offset, <- sizeOf f.type) : Field -> Sem (Nat × Nat))).run P w = .ok (l.map fun f => (f.offset, P.cellsOf f.type)) w := by
     intro l
     induction l with
     | nil => intro _; simp
     | cons f l ih =>
      intro hl
      have h1 := sizeOf_run' P f.type (hl f (by simp)) w
      have h2 := ih (fun g hg => hl g (by simp [hg]))
      simp only [bind_pure_comp] at h2
      simp [List.mapM_cons, h1, h2, Result.andThen]
    have := key fs.toList (fun f hf => by
     have := (Array.all_eq_true' .. |>.1 hall) f (by simpa using hf)
     simpa using this)
    simp only [bind_pure_comp] at this
    simp [this, Result.andThen]
    rw [<- List.map_toArray]
   simp only [Instr.build, Sem.run_bind, hzero, Result.andThen, run_underlying hu, hpl]
   simp only [Array.toList_map]
   have e : (fun i : Nat => (fs.map fun (f : Field) => (f.offset, P.cellsOf f.type))[i]?) = (fun i : Nat => (fs[i]?).map fun (f : Field) => (f.offset, P.cellsOf f.type)) := by
    funext i; simp
   rw [e, hf]
   rfl
  ·rename_i n e hu
   split at hq
   case isFalse => cases hq
   rename_i he
   obtain ⟨ps, hps, rfl⟩ := Option.map_eq_some_iff.1 hq
   simp only [execOp, hop, PM.val]
   refine fin_v ?_
   have hf := fill_run z.cells hps htr hpre
   simp only [Instr.build, Sem.run_bind, hzero, Result.andThen, run_underlying hu, sizeOf_run' P e he]
   simp only [Array.toList_map]
   rw [hf]
   rfl
  ·cases hq
 ·-- slice with a third bound
  rename_i t x lo hi mx hop
  obtain ⟨a, ha, hq⟩ := Option.bind_eq_some_iff.1 hq
  obtain ⟨l, hl, hq⟩ := Option.bind_eq_some_iff.1 hq
  obtain ⟨h, hh, hq⟩ := Option.bind_eq_some_iff.1 hq
  obtain ⟨m, hm, hq⟩ := Option.bind_eq_some_iff.1 hq
  have el := trO_spec hl htr
  split at hq
  case h_2 => cases hq
  rename_i e hu
  split at hq
  case isFalse => cases hq
  rename_i he
  cases hq
  obtain ⟨h1, h2, h3, h4, h5, h6, h7, h8⟩ := hpre
  have hp := isSl_spec h1
  simp only [execOp, hop, htr _ _ ha, el, Option.map_some, htr _ _ hh, htr _ _ hm, PM.val]
  refine fin_v ?_
  generalize r a = v at *
  generalize adrV v = ad at *; generalize lenV v = ln at *; generalize capV v = cp at *
  subst hp
  simp only [Instr.sliceAt, Instr.slice, Sem.run_bind, run_underlying hu, Result.andThen, Sem.run_pure]
  rw [bounds3_run h2 h3 h4 h5 h6 h7 h8]
  simp only [sizeOf_run' P e he, slmV]
 ·-- bytes to a string
  rename_i s t x hop
  obtain ⟨a, ha, hq⟩ := Option.bind_eq_some_iff.1 hq
  split at hq
  case h_2 => cases hq
  rename_i e hs ht
  split at hq
  case isFalse => cases hq
  rename_i he
  cases hq
  unfold u8T at he
  split at he
  case h_2 => cases he
  rename_i hu8
  simp only [execOp, hop, htr _ _ ha, PM.val]
  exact fin_v (b2s_run hs ht hu8 hpre)
 ·-- a closure
  rename_i g fs cs hop
  obtain ⟨a, ha, hq⟩ := Option.bind_eq_some_iff.1 hq
  obtain ⟨b, hb, rfl⟩ := Option.map_eq_some_iff.1 hq
  have ea := trLs_spec ha htr
  have eb := trLs_spec hb htr
  simp only [execOp, hop, PM.val]
  refine fin_v ?_
  have e1 : fs.map ρ = (a.map r).toArray := by apply Array.ext'; rw [Array.toList_map]; exact ea
  have e2 : cs.map ρ = (b.map r).toArray := by apply Array.ext'; rw [Array.toList_map]; exact eb
  rw [e1, e2]
  rfl
 ·-- lookup
  rename_i t x i ok hop
  obtain ⟨a, ha, hq⟩ := Option.bind_eq_some_iff.1 hq
  obtain ⟨b, hb, hq⟩ := Option.bind_eq_some_iff.1 hq
  split at hq
  case h_2 => cases hq
  rename_i k e hu
  split at hq
  case h_3 => cases hq
  ·rename_i z hk hz
   cases hq
   obtain ⟨h1, es, h2, h3⟩ := hpre
   simp only [execOp, hop, htr _ _ ha, htr _ _ hb, PM.val, h2, Option.getD_some]
   exact fin_v (lookup_run hu hk hz h2 h3 h1)
  ·rename_i kk z hk hz
   split at hq
   ·cases hq
   ·rename_i hok
    cases hq
    have hok : ok = false := by simpa using hok
    obtain ⟨h1, es, h2, h3⟩ := hpre
    simp only [execOp, hop, htr _ _ ha, htr _ _ hb, PM.val, h2, Option.getD_some, hok]
    exact fin_v (lookupI_run hu hk hz h2 h3 h1)
 ·-- interface
  rename_i t x hop
  obtain ⟨a, ha, hq⟩ := Option.bind_eq_some_iff.1 hq
  split at hq
  ·cases hq
  ·rename_i d hd hu
   cases hq
   simp only [execOp, hop, htr _ _ ha, PM.val]
   refine fin_v ?_
   unfold Instr.makeInterface
   simp only [Sem.run_bind, run_underlying hu, Result.andThen]
   cases d <;> first | rfl | exact absurd rfl (hd _)
  ·cases hq
 ·-- type assertion
  rename_i x xt t hop
  obtain ⟨a, ha, hq⟩ := Option.bind_eq_some_iff.1 hq
  split at hq
  ·cases hq
  ·rename_i d hd hu
   cases hq
   simp only [execOp, hop, htr _ _ ha, PM.val]
   refine fin_v ?_
   have hpre : isIf t (r a) := hpre
   unfold isIf at hpre
   split at hpre
   case h_2 => exact hpre.elim
   rename_i u v hv
   subst hpre
   rw [hv]
   unfold Instr.typeAssert
   simp only [Sem.run_bind, run_underlying hu, Result.andThen]
   cases d <;> first | (simp [ifV, Sem.run_pure]; done) | exact absurd rfl (hd _)
  ·cases hq
 ·cases hq
end
end Go.Mg
