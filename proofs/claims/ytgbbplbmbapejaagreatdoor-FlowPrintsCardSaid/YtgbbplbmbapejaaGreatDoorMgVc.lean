/- Part of the proof of FlowPrintsCardSaid: a lemma text of ours, over the kit alone. No conditions. -/
import Derived.Test.YtgbbplbmbapejaaGreatDoorMgSnd
import Derived.RangeFuncRecord
set_option linter.all false
namespace Go.Mg
open Go Go.RowKit
inductive EX where
 | st (a x : A)
 | stn (n : Nat) (a x : A)
 | new (T : TypeId) (z : Array Value)
 | box (T : TypeId) (a : A)
 | call (f : FuncId) (args : List A)
 | callv (f : A) (args : List A)
 | cally (f : A) (args : List A)
 | lib (f : FuncId) (args : List A)
 | bldF (T : TypeId) (size : Nat) (n : Nat) (parts : List A)
 | bldS (T : TypeId) (n : Nat) (zs : Array Value) (parts : List (Nat × Nat × A))
 | mkS (T : TypeId) (size bytes : Nat) (z : Array Value) (l c : A)
 | app (str : Bool) (T : TypeId) (size bytes : Nat) (z : Array Value) (s x : A)
 | cpy (str : Bool) (size : Nat) (d s : A)
 | clr (z : Array Value) (a : A)
 | s2b (T : TypeId) (a : A)
 | mark (a : A)
 | rd (x : PX)
 | mup (m k v : A)
 | mui (kk : IntKind) (m k v : A)
 | mkm
 | bad
def okSt (H : Hp) (v : Value) : Prop := match v with | .pointer (some a) => (cell H a).isSome = true /\ frz H a = false | _ => False
def stH (H : Hp) (v x : Value) : Hp := match v with | .pointer (some a) => setc H a x | _ => H
def lenS : Value -> Nat | .slice _ n _ => n | .string s => s.size | _ => 0
def byteCells (s : ByteArray) : Array Value := s.data.map fun b => .int .u8 b.toNat
def srcOk (str : Bool) (v : Value) : Prop := if str = true then isS v else isSl v
def srcN (H : Hp) (v : Value) (k : Nat) : Option (Array Value) :=
 match v with
 | .slice (some b) _ _ => if k = 0 then some #[] else ldNA H b k
 | .slice none _ _ => some #[]
 | .string s => some (byteCells (s.extract 0 k))
 | _ => none
def all1 (xs : Array Value) : Prop := ∀ x ∈ xs.toList, x.oneCell' = true
def okPut (H : Hp) (a : Option Addr) (off : Nat) (xs : Array Value) : Prop := match a with | none => True | some p => all1 xs /\ (xs.size = 0 \/ okNA H (p.add off) xs.size)
def putH (H : Hp) (a : Option Addr) (off : Nat) (xs : Array Value) : Hp := match a with | none => H | some p => if xs.size = 0 then H else stNA H (p.add off) xs.toList
def rep (z : Array Value) (n : Nat) : Array Value := (Array.range n).map fun i => z[i % z.size]!
def mkH (H : Hp) (b : Nat) (n : Nat) : Hp :=
 H.modify b fun
  | .cells c T (lo, hi) => .cells c T (if lo == hi then (n, n + 1) else (min lo n, max hi (n + 1)))
  | o => o
def sizeB (H : Hp) (b : Nat) : Option Nat := match H[b]? with | some (.cells c _ _) => some c.size | _ => none
def updI (es : Array MapEntry) (clock : Nat) (k v : Value) : Array MapEntry × Nat :=
 match es.toList.findIdx? (fun e => k.i == e.key.i) with
 | some i => (es.modify i fun e => { e with key := k, val := v }, clock)
 | none => (es.push { key := k, val := v, born := clock }, clock + 1)
def bodyOk (P : Program) (f : FuncId) : Bool := match P.funcs[f]? with | some fn => fn.body.isSome && !(fn.name == "runtime.NumGoroutine") | none => false
def LibRun (P : Program) (f : FuncId) (args : Array Value) (H : Hp) (v : Value) (H' : Hp) : Prop := ∀ w : World, w.heap = H -> (callFunc f args).run P w = .ok (.value v) { w with heap := H' }
def LibM (P : Program) (f : FuncId) (args : Array Value) (H : Hp) (K : Value -> Hp -> Prop) : Prop := ∀ w : World, w.heap = H -> ∃ v w', (callFunc f args).run P w = .ok (.value v) w' /\ Same w w' /\ K v w'.heap
theorem LibRun.m {P : Program} {f : FuncId} {args : Array Value} {H H' : Hp} {v : Value} {K : Value -> Hp -> Prop} (h : LibRun P f args H v H') (hk : K v H') : LibM P f args H K := fun w hw => ⟨v, _, h w hw, ⟨rfl, rfl, rfl⟩, hk⟩
def AppC (str : Bool) (T : TypeId) (size bytes : Nat) (z : Array Value) (s x : Value) (H : Hp) (K : Value -> Hp -> Prop) : Prop :=
  (isSl s /\ srcOk str x /\ lenV s + lenS x <= maxLen /\ (lenV s + lenS x) * bytes <= 140737488355328) ∧
  ∃ news, srcN H x (lenS x * size) = some news ∧
   (lenV s + lenS x <= capV s -> okPut H (adrV s) (lenV s * size) news ∧
    K (.slice (adrV s) (lenV s + lenS x) (capV s)) (putH H (adrV s) (lenV s * size) news)) ∧
   (capV s < lenV s + lenS x -> ∃ olds, srcN H s (lenV s * size) = some olds /\ ∀ c, lenV s + lenS x <= c →
    K (.slice (some ⟨H.size, 0, none⟩) (lenV s + lenS x) c) (H.push (.cells (olds ++ news ++ rep z ((c - (lenV s + lenS x)) * z.size)) T)))
def YieldM (P : Program) (l : Nat) (args : Array Value) (H : Hp) (K : Value -> Hp -> Prop) : Prop :=
 ∀ w : World, w.heap = H -> ∃ fn tmps asg body, (Instr.yield l args).run P w = .ok (.round l fn tmps asg body) w ∧
  RoundIn Fence.wide 0 P l fn tmps asg body w fun e w' => ∃ v, e = .returned v /\ K v w'.heap /\ Same w w'
theorem YieldM.mono {P : Program} {l : Nat} {args : Array Value} {H : Hp} {K K' : Value -> Hp -> Prop} (h : YieldM P l args H K) (hk : ∀ v H', K v H' -> K' v H') : YieldM P l args H K' :=
 fun w hw => let ⟨fn, tmps, asg, body, h1, h2⟩ := h w hw; ⟨fn, tmps, asg, body, h1, h2.mono fun _ _ ⟨v, e, k, s⟩ => ⟨v, e, hk _ _ k, s⟩⟩
def IterC (P : Program) (gf : FuncId) (lb : Array Value) (xs : List Value) (G : Hp -> Prop) : Prop :=
 ∀ (l : Nat) (J : Nat -> Hp -> Prop) (K : Hp -> Prop),
  (∀ k H, k < xs.length -> J k H -> YieldM P l #[xs.getD k undef] H fun v H' => (v = .bool true /\ J (k + 1) H') \/ (v = .bool false /\ K H')) →
  (∀ k H, J k H -> G H) -> ∀ H, J 0 H →
   ∀ w : World, w.heap = H -> Calls P gf (#[.func (.yield l) #[] #[]] ++ lb) w fun e w' => ∃ v, e = .returned v /\ Same w w' /\ (J xs.length w'.heap \/ K w'.heap)
def OnlyL (l : Nat) (H H' : Hp) : Prop := H'.size = H.size /\ ∀ k, k ≠ l -> H'[k]? = H[k]?
def EX.wp (P : Program) : EX -> (A -> Value) -> Hp -> (Value -> Hp -> Prop) -> Prop
 | .st a x, r, H, K => (okSt H (r a) /\ (r x).oneCell' = true) /\ K undef (stH H (r a) (r x))
 | .stn n a x, r, H, K => (okN H (r a) n /\ (r x).cells.size = n /\ all1 (r x).cells) /\ K undef (stNH H (r a) (r x).cells.toList)
 | .new T z, _, H, K => K (.pointer (some ⟨H.size, 0, none⟩)) (H.push (.cells z T))
 | .box T a, r, H, K => K (.pointer (some ⟨H.size, 0, none⟩)) (H.push (.cells (r a).cells T))
 | .call f args, r, H, K => CallsM P f (args.map r).toArray H K
 | .callv f args, r, H, K => match r f with
  | .func (.func g) fi ca => bodyOk P g = true /\ CallsM P g (fi ++ (args.map r).toArray ++ ca) H K
  | _ => False
 | .cally f args, r, H, K => ∃ l, r f = .func (.yield l) #[] #[] /\ YieldM P l (args.map r).toArray H K
 | .lib f args, r, H, K => LibM P f (args.map r).toArray H K
 | .bldF T size n parts, r, H, K => (∀ a ∈ parts, (r a).cells.size = size) /\ K (.slice (some ⟨H.size, 0, none⟩) n n) (H.push (.cells (parts.flatMap fun a => (r a).cells.toList).toArray T))
 | .bldS T n zs ps, r, H, K => okFill r zs.size ps /\ K (.slice (some ⟨H.size, 0, none⟩) n n) (H.push (.cells (fillV r zs ps) T))
 | .mkS T size bytes z l c, r, H, K => (isInt (r l) /\ isInt (r c) /\ 0 <= (r l).i /\ (r l).i <= (r c).i /\ bytes * (r c).i <= 281474976710656 /\ (r c).i <= maxLen) ∧
   K (.slice (some ⟨H.size, 0, none⟩) (r l).i.toNat (r c).i.toNat) (H.push (.cells (rep z ((r c).i.toNat * size)) T))
 | .app str T size bytes z s x, r, H, K => AppC str T size bytes z (r s) (r x) H K
 | .cpy str size d s, r, H, K => (isSl (r d) /\ srcOk str (r s)) ∧
  ∃ news, srcN H (r s) (min (lenS (r s)) (lenV (r d)) * size) = some news /\ okPut H (adrV (r d)) 0 news /\ K (.int .i64 (min (lenS (r s)) (lenV (r d)) : Nat)) (putH H (adrV (r d)) 0 news)
 | .clr z a, r, H, K => isSl (r a) /\ okPut H (adrV (r a)) 0 (rep z (lenV (r a) * z.size)) /\ K (.tuple #[]) (putH H (adrV (r a)) 0 (rep z (lenV (r a) * z.size)))
 | .s2b T a, r, H, K => isS (r a) /\ ∀ c, (r a).s.size <= c →
   K (.slice (some ⟨H.size, 0, none⟩) (r a).s.size c) (H.push (.cells (byteCells (r a).s ++ Array.replicate (c - (r a).s.size) (.int .u8 0)) T (c, c + 1)))
 | .rd x, r, H, K => x.pre r H /\ K (x.val r H) H
 | .mup m k v, r, H, K => isS (r k) /\ ∃ b es clock, r m = .map (some b) /\ H[b]? = some (.map es clock) /\ (∀ e ∈ es.toList, isS e.key /\ ((r k).s == e.key.s) = false) /\ K undef (H.setIfInBounds b (.map (es.push { key := r k, val := r v, born := clock }) (clock + 1)))
 | .mui kk m k v, r, H, K => isI kk (r k) /\ ∃ b es clock, r m = .map (some b) /\ H[b]? = some (.map es clock) /\ (∀ e ∈ es.toList, isI kk e.key) /\ K undef (H.setIfInBounds b (.map (updI es clock (r k) (r v)).1 (updI es clock (r k) (r v)).2))
 | .mkm, _, H, K => K (.map (some H.size)) (H.push (.map #[] 0))
 | .bad, _, _, _ => False
 | .mark a, r, H, K => match r a with
  | .slice (some p) _ _ => match sizeB H p.block with
   | some n => K (r a) (mkH H p.block n)
   | none => K (r a) H
  | _ => False
def trAs (tr : Operand -> Option A) : List Operand -> Option (List A)
 | [] => some []
 | x :: l => do pure ((← tr x) :: (← trAs tr l))
def seqParts (k : Nat) : List (Nat × Operand) -> Bool
 | [] => true
 | (i, _) :: l => i == k && seqParts (k + 1) l
def isU8 (P : Program) (e : TypeId) : Bool := match P.underlying e with | some (.int .u8) => true | _ => false
def exCall (P : Program) (tr : Operand -> Option A) (c : Call) : Option EX :=
 match c.callee with
 | .value (.func f) => if bodyOk P f = true then (trAs tr c.args.toList).map (.call f) else (trAs tr c.args.toList).map (.lib f)
 | .value f => (tr f).bind fun g => (trAs tr c.args.toList).map (.callv g)
 | .builtin .append =>
  match c.args.toList, c.argTypes.toList with
  | [s, x], [t, u] => (tr s).bind fun s => (tr x).bind fun x =>
   match P.underlying t with
   | some (.slice e) => (P.info? e).bind fun i => i.zero.bind fun z =>
    if i.size = z.cells.size then
     match P.underlying u with
     | some (.slice _) => some (.app false e i.size i.bytes z.cells s x)
     | some .string => if i.size = 1 then some (.app true e i.size i.bytes z.cells s x) else none
     | _ => none
    else none
   | _ => none
  | _, _ => none
 | .builtin .copy =>
  match c.args.toList, c.argTypes.toList with
  | [d, s], [t, u] => (tr d).bind fun d => (tr s).bind fun s =>
   match P.underlying t with
   | some (.slice e) => if (P.info? e).isSome then
     match P.underlying u with
     | some (.slice _) => some (.cpy false (P.cellsOf e) d s)
     | some .string => if P.cellsOf e = 1 then some (.cpy true (P.cellsOf e) d s) else none
     | _ => none
    else none
   | _ => none
  | _, _ => none
 | .builtin .clear =>
  match c.args.toList, c.argTypes.toList with
  | [s], [t] => (tr s).bind fun s =>
   match P.underlying t with
   | some (.slice e) => (P.info? e).bind fun i => i.zero.bind fun z => some (.clr z.cells s)
   | _ => none
  | _, _ => none
 | _ => none
def ex (P : Program) (tr : Operand -> Option A) (o : Oper) : Option EX :=
 match o.op with
 | .store t x y => (tr x).bind fun a => (tr y).bind fun b =>
  if aggr P t then some (.stn (P.cellsOf t) a b) else if P.cellsOf t = 1 then (if plain1 P t then some (.st a b) else none) else none
 | .alloc t => match (P.info? t).bind (·.zero) with
  | some z => some (.new t z.cells)
  | none => none
 | .box t x => (tr x).map (.box t)
 | .buildSlice t len parts =>
  match P.underlying t with
  | some (.slice e) => (P.info? e).bind fun i => i.zero.bind fun z =>
   if len = 0 /\ parts.toList.isEmpty = true then some (.bldF e i.size 0 []) else
   if len * i.size <= 16777216 /\ 0 < len * i.size then
    if seqParts 0 parts.toList && parts.size == len then (trAs tr (parts.toList.map (·.2))).map (.bldF e i.size len)
    else (trParts tr (fun k => some (k * i.size, i.size)) parts.toList).map (.bldS e len (rep z.cells (len * i.size)))
   else none
  | _ => none
 | .makeSlice t l c => (tr l).bind fun l => (tr c).bind fun c =>
  match P.underlying t with
  | some (.slice e) => (P.info? e).bind fun i => i.zero.bind fun z => some (.mkS e i.size i.bytes z.cells l c)
  | _ => none
 | .convert s t x => (tr x).bind fun a =>
  match P.underlying s, P.underlying t with
  | some .string, some (.slice e) => match P.underlying e with
   | some (.int .u8) => some (.s2b e a)
   | _ => none
  | some (.slice _), some (.slice e) => if s = t /\ isU8 P e = true then some (.mark a) else none
  | _, _ => none
 | .call c => exCall P tr c
 | .mapUpdate t m k v => (tr m).bind fun m => (tr k).bind fun k => (tr v).bind fun v =>
  match P.underlying t with
  | some (.map q _) => match P.underlying q with
   | some .string => some (.mup m k v)
   | some (.int kk) => some (.mui kk m k v)
   | _ => none
  | _ => none
 | .makeMap _ none => some .mkm
 | .panic _ => some .bad
 | _ => none
inductive O where
 | p (d : D) (x : PX)
 | e (d : D) (x : EX)
 | gp (d : D) (g : A) (b : Bool) (x : PX)
 | ge (d : D) (g : A) (b : Bool) (x : EX)
def gb : Value -> Bool -> Bool
 | .bool x, b => x == b
 | _, _ => false
def ops (P : Program) : List O -> Env -> Fr -> Hp -> (Fr -> Hp -> Prop) -> Prop
 | [], _, f, H, Q => Q f H
 | .p d x :: r, e, f, H, Q => x.pre (A.rd e f) H /\ ops P r (d.env (x.val (A.rd e f) H) e) (d.fr (x.val (A.rd e f) H) f) H Q
 | .e d x :: r, e, f, H, Q => x.wp P (A.rd e f) H (fun v H' => ops P r (d.env v e) (d.fr v f) H' Q)
 | .gp d g b x :: r, e, f, H, Q => (gb (g.rd e f) b = true -> x.pre (A.rd e f) H) ∧
   ops P r (d.env (if gb (g.rd e f) b = true then x.val (A.rd e f) H else undef) e) (d.fr (if gb (g.rd e f) b = true then x.val (A.rd e f) H else undef) f) H Q
 | .ge d g b x :: r, e, f, H, Q => (gb (g.rd e f) b = true -> x.wp P (A.rd e f) H (fun v H' => ops P r (d.env v e) (d.fr v f) H' Q)) ∧
   (gb (g.rd e f) b = false -> ops P r (d.env undef e) (d.fr undef f) H Q)
inductive T where
 | done
 | px (d : D) (g : Option (A × Bool)) (x : PX) (t : T)
 | wcons (d : D) (g : Option (A × Bool)) (x : EX) (t more : T)
 | wnil
def PX.free : PX -> Bool
 | .ld _ => false
 | .m q => q.free
 | _ => true
def gOk (g : Option (A × Bool)) (e : Env) (f : Fr) : Bool := match g with | none => true | some (x, b) => gb (x.rd e f) b
def tvc (P : Program) : (Hp -> Prop) -> T -> Env -> Fr -> Hp -> (Fr -> Hp -> Prop) -> Prop
 | _, .done, _, f, H, Q => Q f H
 | C, .px d none x t, e, f, H, Q => (if x.free = true then x.pre (A.rd e f) H else ∀ H', C H' -> x.pre (A.rd e f) H' /\ x.val (A.rd e f) H' = x.val (A.rd e f) H) ∧
   tvc P C t (d.env (x.val (A.rd e f) H) e) (d.fr (x.val (A.rd e f) H) f) H Q
 | C, .px d (some (y, b)) x t, e, f, H, Q => (gb (y.rd e f) b = true -> if x.free = true then x.pre (A.rd e f) H else ∀ H', C H' -> x.pre (A.rd e f) H' /\ x.val (A.rd e f) H' = x.val (A.rd e f) H) ∧
   tvc P C t (d.env (if gb (y.rd e f) b = true then x.val (A.rd e f) H else undef) e) (d.fr (if gb (y.rd e f) b = true then x.val (A.rd e f) H else undef) f) H Q
 | C, .wcons d none x t m, e, f, H, Q => x.wp P (A.rd e f) H (fun v H' => ∃ C' : Hp -> Prop, (∀ K, C' K -> C K) /\ C' H' /\ tvc P C' t (d.env v e) (d.fr v f) H' Q) /\ tvc P C m e f H Q
 | C, .wcons d (some (y, b)) x t m, e, f, H, Q => ((gb (y.rd e f) b = true -> x.wp P (A.rd e f) H (fun v H' => ∃ C' : Hp -> Prop, (∀ K, C' K -> C K) /\ C' H' /\ tvc P C' t (d.env v e) (d.fr v f) H' Q)) ∧
   (gb (y.rd e f) b = false -> tvc P C t (d.env undef e) (d.fr undef f) H Q)) /\ tvc P C m e f H Q
 | _, .wnil, _, _, _, _ => True
def kont (P : Program) (d : D) (r : List O) (e : Env) (f : Fr) (Q : Fr -> Hp -> Prop) (v : Value) (H : Hp) : Prop := ops P r (d.env v e) (d.fr v f) H Q
inductive Ex where
 | n
 | x (id : Nat)
 | r
def Ex.to : Ex -> Exit
 | .n => .normal
 | .x id => .exit id
 | .r => .ret
inductive S where
 | skip
 | reg (l : List O)
 | dr (t : T)
 | seq (a b : S)
 | ite (c : A) (a b : S)
 | blk (id : Nat) (s : S)
 | loop (s : S)
 | exit (id : Nat)
 | ret
 | rf (g : Nat) (a : A) (p i : Nat) (body : S)
def RfH (P : Program) (v : Value) (H : Hp) (rnd : Value -> (Ex -> Fr -> Hp -> Prop) -> Hp -> Prop) (K : Ex -> Hp -> Prop) : Prop :=
 ∃ (gf : FuncId) (lb : Array Value) (xs : List Value) (G : Hp -> Prop) (J : Nat -> Hp -> Prop) (X : Ex -> Hp -> Prop),
  (v = .func (.func gf) #[] lb /\ bodyOk P gf = true /\ IterC P gf lb xs G) /\ (∀ k H', J k H' -> G H') ∧
  (∀ H0 : Hp, H0.size = H.size + 2 -> (∀ k, k < H.size -> H0[k]? = H[k]?) -> H0[H.size]? = some (.deferred (some [])) -> J 0 H0) ∧
  ((∀ k H1 H2, J k H1 -> OnlyL (H.size + 1) H1 H2 -> J k H2) /\ ∀ e H1 H2, X e H1 -> OnlyL (H.size + 1) H1 H2 -> X e H2) ∧
  (∀ k H1, k < xs.length -> J k H1 -> rnd (xs.getD k undef) (fun e _ H2 => H2[H.size + 1]? = H1[H.size + 1]? /\ match e with | .n => J (k + 1) H2 | e => X e H2) H1) ∧
  (∀ H1, J xs.length H1 -> K .n H1) /\ ∀ e H1, X e H1 -> K e H1
def mks : Value -> List Nat
 | .tuple vs => vs.toList.map fun v => v.i.toNat
 | _ => []
def addM (v : Value) (d : Nat) : Value := .tuple ((d :: mks v).map fun m : Nat => Value.int .i64 (m : Int)).toArray
def thenQ (N : Fr -> Hp -> Prop) (Q : Ex -> Fr -> Hp -> Prop) : Ex -> Fr -> Hp -> Prop
 | .n, f, H => N f H
 | e, f, H => Q e f H
def blkQ (id : Nat) (Q : Ex -> Fr -> Hp -> Prop) : Ex -> Fr -> Hp -> Prop
 | .x i, f, H => if i = id then Q .n f H else Q (.x i) f H
 | e, f, H => Q e f H
def loopQ (I : Nat -> Fr -> Hp -> Prop) (n : Nat) (Q : Ex -> Fr -> Hp -> Prop) : Ex -> Fr -> Hp -> Prop
 | .n, f, H => ∃ m, m < n /\ I m f H
 | e, f, H => Q e f H
def vc (P : Program) : S -> (Ex -> Fr -> Hp -> Prop) -> Fr -> Hp -> Prop
 | .skip, Q, f, H => Q .n f H
 | .reg l, Q, f, H => ops P l [] f H (Q .n)
 | .dr t, Q, f, H => ∃ C : Hp -> Prop, C H /\ tvc P C t [] f H (Q .n)
 | .seq a b, Q, f, H => vc P a (thenQ (vc P b Q) Q) f H
 | .ite c a b, Q, f, H => isB (c.rd [] f) /\ ((c.rd [] f).b = true -> vc P a Q f H) /\ ((c.rd [] f).b = false -> vc P b Q f H)
 | .blk id s, Q, f, H => vc P s (blkQ id Q) f H
 | .loop s, Q, f, H => ∃ I : Nat -> Fr -> Hp -> Prop, (∃ n, I n f H) /\ ∀ n f' H', I n f' H' -> vc P s (loopQ I n Q) f' H'
 | .exit id, Q, f, H => Q (.x id) f H
 | .ret, Q, f, H => Q .r f H
 | .rf g a p i body, Q, f, H => RfH P (a.rd [] f) H (fun x Qb Hb => vc P body Qb (upd (upd f p x) i x) Hb) (fun e H' => Q e (upd f g (addM (f g) H.size)) H')
def trA (L e : List Nat) : Operand -> Option A
 | .tmp t => if L.contains t then some (.v t) else if e.contains t then some (.t t) else none
 | .const v => some (.c v)
 | .global g => some (.c (.pointer (some ⟨g, 0, none⟩)))
 | .func f => some (.c (.func (.func f) #[] #[]))
def trD (L : List Nat) (n : Nat) : Option Tmp -> Option D
 | none => some .no
 | some d => if d < n then (if L.contains d then some (.v d) else some (.t d)) else none
def D.more : D -> List Nat -> List Nat
 | .t n, e => n :: e
 | _, e => e
def trG (L e : List Nat) (all : Array Oper) : Option (Nat × Bool) -> Option (Option (A × Bool))
 | none => some none
 | some (j, b) => match (all[j]?).bind (·.dst) with
  | some t => (trA L e (.tmp t)).map fun a => some (a, b)
  | none => none
def trOps (P : Program) (L : List Nat) (n : Nat) (all : Array Oper) : List Oper -> List Nat -> Option (List O)
 | [], _ => some []
 | o :: r, e =>
  (trD L n o.dst).bind fun d =>
  (trG L e all o.guard).bind fun g =>
  match px P (trA L e) o, g with
  | some x, none => (trOps P L n all r (d.more e)).map (.p d x :: ·)
  | some x, some (a, b) => (trOps P L n all r (d.more e)).map (.gp d a b x :: ·)
  | none, g => (ex P (trA L e) o).bind fun x => match g with
   | none => (trOps P L n all r (d.more e)).map (.e d x :: ·)
   | some (a, b) => (trOps P L n all r (d.more e)).map (.ge d a b x :: ·)
def O.pure : O -> Bool
 | .p _ _ | .gp _ _ _ _ => true
 | _ => false
def inText (ops : Array Oper) (l : List O) : Bool :=
 (Region.lexB .any ops && l.all O.pure) || (List.range ops.size).any fun n => (l.take n).all O.pure && Region.lexTailB .any ops n
def exq (fl : Bool) (P : Program) (tr : Operand -> Option A) (o : Oper) : Option EX :=
 match ex P tr o with
 | some x => some x
 | none => if fl then (px P tr o).map .rd else none
def addrOf (ops : Array Oper) (a : Operand) : Option Oper := match a with
 | .tmp t => ops.find? fun o => o.dst == some t
 | _ => none
def sameAddr (a b : Oper) : Bool := match a.op, b.op with
 | .fieldAddr t _ f, .fieldAddr t' _ f' => t == t' && f == f'
 | .indexAddr t _ _, .indexAddr t' _ _ => t == t'
 | _, _ => false
def sameNil (ops : Array Oper) (x y : Oper) : Bool := match x.op, y.op with
 | .nilCheck a, .nilCheck b => match addrOf ops a, addrOf ops b with
  | some p, some q => match p.op, q.op with
   | .move (.tmp u), .move (.tmp v) => u == v
   | _, _ => false
  | _, _ => false
 | _, _ => false
def sameTmp (a b : Operand) : Bool := match a, b with
 | .tmp u, .tmp v => u == v
 | _, _ => false
def clash (ops : Array Oper) (o : Oper) : Bool := match o.op with
 | .load _ a => match addrOf ops a with
  | some x => ops.any fun s => match s.op with
   | .store _ b _ => match addrOf ops b with
    | some y => sameAddr x y || sameNil ops x y
    | none => false
   | _ => false
  | none => ops.any fun s => match s.op with
   | .store _ b _ => sameTmp a b
   | _ => false
 | .lookup _ _ _ false => ops.any fun s => match s.op with
  | .mapUpdate .. => true
  | _ => false
 | _ => false
def trT (fl : Oper -> Bool) (P : Program) (L : List Nat) (n : Nat) (all : Array Oper) : Nat -> Array Bool -> List Nat -> Option T
 | 0, listed, _ => if Region.ready .any all listed = [] then some .done else none
 | k + 1, listed, ks =>
  if Region.ready .any all listed = [] then some .done else
  match (Region.ready .any all listed).find? (fun i => Region.free .any all listed i && (all[i]?).any fun o => (px P (trA L ks) o).any fun x => !fl o || x.free) with
  | some i =>
   (all[i]?).bind fun o => (trD L n o.dst).bind fun d => (trG L ks all o.guard).bind fun g => (px P (trA L ks) o).bind fun x =>
    (trT fl P L n all k (listed.setIfInBounds i true) (d.more ks)).map (.px d g x)
  | none =>
   (Region.ready .any all listed).foldr (fun i acc => acc.bind fun m =>
    (all[i]?).bind fun o => (trD L n o.dst).bind fun d => (trG L ks all o.guard).bind fun g => (exq (fl o) P (trA L ks) o).bind fun x =>
     (trT fl P L n all k (listed.setIfInBounds i true) (d.more ks)).map fun t => .wcons d g x t m) (some .wnil)
def swapL (ops : Array Oper) : Bool :=
 (ops.any fun o => match o.op with | .store .. => true | _ => false) && ops.all fun o => match o.op with | .store .. | .load .. | .indexAddr .. | .move .. | .assign .. | .nilCheck .. | .fieldAddr .. | .binOp .. => true | _ => false
def trDr (P : Program) (L : List Nat) (n : Nat) (ops : Array Oper) : Option S :=
 match (trOps P L n ops ops.toList []).bind fun l => if inText ops l then some (S.reg l) else none with
 | some s => some s
 | none => if Region.noSelect ops then (trT (fun o => swapL ops || clash ops o) P L n ops ops.size (Array.replicate ops.size false) []).map .dr else none
def trans (P : Program) (L : List Nat) (n : Nat) : Code -> Option S
 | .skip => some .skip
 | .region _ ops draw => if draw then trDr P L n ops else (trOps P L n ops ops.toList []).map .reg
 | .seq a b => (trans P L n a).bind fun x => (trans P L n b).map (.seq x ·)
 | .cond c a b => (trA L [] c).bind fun c => (trans P L n a).bind fun x => (trans P L n b).map (.ite c x ·)
 | .block id c => (trans P L n c).map (.blk id ·)
 | .loop c => (trans P L n c).map .loop
 | .exit id => some (.exit id)
 | .ret => some .ret
 | _ => none
end Go.Mg
