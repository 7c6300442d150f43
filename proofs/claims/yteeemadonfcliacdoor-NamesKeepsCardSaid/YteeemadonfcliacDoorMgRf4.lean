/- Several texts of ours in one. No conditions. -/
import Derived.Test.YteeemadonfcliacDoorMgTvk
import Derived.RangeFuncCalls
import Derived.OrdersIn
import Derived.Test.YteeemadonfcliacDoorMgEl
namespace Go.Mg
open Go Go.RowKit
set_option linter.all false
def noDef (o : Oper) : Bool := match o.op with | .defer _ => false | _ => true
def transB (P : Program) (L : List Nat) (n : Nat) : Code -> Option S
 | .skip => some .skip
 | .region _ ops draw =>
  if ops.all noDef then
   if draw then (if Region.noSelect ops then (trT (fun o => swapL ops || clash ops o) P L n ops ops.size (Array.replicate ops.size false) []).map .dr else none)
   else (trOps P L n ops ops.toList []).map .reg
  else none
 | .seq a b => (transB P L n a).bind fun x => (transB P L n b).map (.seq x ·)
 | .cond c a b => (trA L [] c).bind fun c => (transB P L n a).bind fun x => (transB P L n b).map (.ite c x ·)
 | .block id c => (transB P L n c).map (.blk id ·)
 | .exit id => some (.exit id)
 | .ret => some .ret
 | _ => none
theorem mks_addM (v : Value) (d : Nat) : mks (addM v d) = d :: mks v := by
 simp [mks, addM, Value.i, Function.comp_def]
def Ex.code : Ex -> Option Code
 | .n => none
 | .x id => some (.exit id)
 | .r => some .ret
theorem OnlyL.put {w : World} {l : Nat} {o : Obj} : OnlyL l w.heap (w.putObj l o).heap := ⟨World.putObj_size, fun _ hk => World.putObj_heap_other hk⟩
theorem OnlyL.keep {l : Nat} {H H' : Hp} (h : OnlyL l H H') : Keep (fun k => k = l) H H' := ⟨Nat.le_of_eq h.1.symm, fun k _ hk => h.2 k hk⟩
end Go.Mg
namespace Go.Mg
open Go Go.RowKit
set_option linter.all false
def rfParts : Code -> Option (Oper × Nat × Nat)
 | .region _ ops false => match ops.toList with
  | [ao] => match ao.op, ao.dst, ao.guard with
   | .assign (.tmp p), some i, none => some (ao, p, i)
   | _, _, _ => none
  | _ => none
 | _ => none
def transR (P : Program) (L : List Nat) (n g : Nat) : Code -> Option S
 | .seq a b => (transR P L n g a).bind fun x => (transR P L n g b).map (.seq x ·)
 | .cond c a b => (trA L [] c).bind fun c => (transR P L n g a).bind fun x => (transR P L n g b).map (.ite c x ·)
 | .block id c => (transR P L n g c).map (.blk id ·)
 | .loop c => (transR P L n g c).map .loop
 | .rangeFunc gO ps asg body => match ps.toList with
  | [p] => (rfParts asg).bind fun q => if q.2.1 = p /\ q.2.2 < n /\ p < n /\ L.contains p = true /\ L.contains q.2.2 = true /\ L.contains g = false then
    (trA L [] gO).bind fun ga => (transB P L n body).map fun sb => .rf g ga p q.2.2 sb
   else none
  | _ => none
 | .skip => some .skip
 | .exit id => some (.exit id)
 | .ret => some .ret
 | c => (trans P L n c).bind fun s => if s.wr.contains g then none else some s
def retQR (g : Nat) (rs : List RV) (R : Value -> Hp -> Prop) : Ex -> Fr -> Hp -> Prop
 | .x _, _, _ => False
 | _, f, H => (mks (f g)).Nodup /\ (∀ m ∈ mks (f g), H[m]? = some (.deferred (some []))) ∧
  ∀ H' : Hp, H'.size = H.size -> (∀ k, k ∉ mks (f g) -> H'[k]? = H[k]?) -> resPre f H' rs /\ R (resVal f H' rs) H'
def codeOfR (P : Program) (fn : Func) : Option (S × List RV) :=
 fn.body.bind fun c => (transR P (liveF fn) fn.ntmps fn.ntmps c).bind fun s => (fn.results.toList.mapM (trR P (liveF fn))).map fun rs => (s, rs)
structure FnIsR (P : Program) (k : FuncId) (s : S) (rs : List RV) (np g : Nat) : Prop where
 ok : ∃ fn c L, P.funcs[k]? = some fn /\ fn.body = some c /\ transR P L fn.ntmps g c = some s /\ fn.results.toList.mapM (trR P L) = some rs /\ np <= fn.ntmps /\ g = fn.ntmps
 mix : P.follows .mixedOrders = true
 body : bodyOk P k = true
theorem FnIsR.mk' {P : Program} {k : FuncId} {fn : Func} {s : S} {rs : List RV} {np g : Nat} (hf : P.funcs[k]? = some fn) (hm : P.follows .mixedOrders = true) (hc : codeOfR P fn = some (s, rs)) (hn : (decide (np <= fn.ntmps) && decide (g = fn.ntmps)) = true)
  (hb : (fn.name == "runtime.NumGoroutine") = false) : FnIsR P k s rs np g := by
 unfold codeOfR at hc
 obtain ⟨c, h1, hc⟩ := Option.bind_eq_some_iff.1 hc
 obtain ⟨s', h2, hc⟩ := Option.bind_eq_some_iff.1 hc
 obtain ⟨rs', h3, hc⟩ := Option.map_eq_some_iff.1 hc
 cases hc
 simp only [Bool.and_eq_true, decide_eq_true_eq] at hn
 obtain ⟨hn, rfl⟩ := hn
 refine ⟨⟨fn, c, _, hf, h1, h2, h3, hn, rfl⟩, hm, ?_⟩
 simp [bodyOk, hf, h1, hb]
end Go.Mg
namespace Go.Mg
open Go Go.RowKit
set_option linter.all false
def exY (P : Program) (tr : Operand -> Option A) (o : Oper) : Option EX :=
 match o.op with
 | .call c => match c.callee with
  | .value (.tmp t) => (tr (.tmp t)).bind fun g => (trAs tr c.args.toList).map (.cally g)
  | _ => ex P tr o
 | _ => ex P tr o
def trOpsY (P : Program) (L : List Nat) (n : Nat) : List Oper -> List Nat -> Option (List O)
 | [], _ => some []
 | o :: r, e =>
  (trD L n o.dst).bind fun d =>
  if o.guard.isNone && noDef o then
   match px P (trA L e) o with
   | some x => (trOpsY P L n r (d.more e)).map (.p d x :: ·)
   | none => (exY P (trA L e) o).bind fun x => (trOpsY P L n r (d.more e)).map (.e d x :: ·)
  else none
def transY (P : Program) (L : List Nat) (n : Nat) : Code -> Option S
 | .skip => some .skip
 | .region _ ops draw => if draw then none else (trOpsY P L n ops.toList []).map .reg
 | .seq a b => (transY P L n a).bind fun x => (transY P L n b).map (.seq x ·)
 | .cond c a b => (trA L [] c).bind fun c => (transY P L n a).bind fun x => (transY P L n b).map (.ite c x ·)
 | .block id c => (transY P L n c).map (.blk id ·)
 | .loop c => (transY P L n c).map .loop
 | .exit id => some (.exit id)
 | .ret => some .ret
 | _ => none
def codeOfY (P : Program) (fn : Func) : Option (S × List RV) :=
 fn.body.bind fun c => (transY P (liveF fn) fn.ntmps c).bind fun s => (fn.results.toList.mapM (trR P (liveF fn))).map fun rs => (s, rs)
structure FnIsY (P : Program) (k : FuncId) (s : S) (rs : List RV) (np : Nat) : Prop where
 ok : ∃ fn c L, P.funcs[k]? = some fn /\ fn.body = some c /\ transY P L fn.ntmps c = some s /\ fn.results.toList.mapM (trR P L) = some rs /\ np <= fn.ntmps
 body : bodyOk P k = true
theorem FnIsY.mk' {P : Program} {k : FuncId} {fn : Func} {s : S} {rs : List RV} {np : Nat} (hf : P.funcs[k]? = some fn) (hc : codeOfY P fn = some (s, rs)) (hn : decide (np <= fn.ntmps) = true)
  (hb : (fn.name == "runtime.NumGoroutine") = false) : FnIsY P k s rs np := by
 unfold codeOfY at hc
 obtain ⟨c, h1, hc⟩ := Option.bind_eq_some_iff.1 hc
 obtain ⟨s', h2, hc⟩ := Option.bind_eq_some_iff.1 hc
 obtain ⟨rs', h3, hc⟩ := Option.map_eq_some_iff.1 hc
 cases hc
 refine ⟨⟨fn, c, _, hf, h1, h2, h3, of_decide_eq_true hn⟩, ?_⟩
 simp [bodyOk, hf, h1, hb]
end Go.Mg
namespace Go.Mg
open Go Go.RowKit
set_option linter.all false
@[go_sem] theorem retQR_n (g : Nat) (rs : List RV) (R) (f : Fr) (H : Hp) : retQR g rs R .n f H = ((mks (f g)).Nodup /\ (∀ m ∈ mks (f g), H[m]? = some (.deferred (some []))) ∧
  ∀ H' : Hp, H'.size = H.size -> (∀ k, k ∉ mks (f g) -> H'[k]? = H[k]?) -> resPre f H' rs /\ R (resVal f H' rs) H') := rfl
@[go_sem] theorem retQR_r (g : Nat) (rs : List RV) (R) (f : Fr) (H : Hp) : retQR g rs R .r f H = ((mks (f g)).Nodup /\ (∀ m ∈ mks (f g), H[m]? = some (.deferred (some []))) ∧
  ∀ H' : Hp, H'.size = H.size -> (∀ k, k ∉ mks (f g) -> H'[k]? = H[k]?) -> resPre f H' rs /\ R (resVal f H' rs) H') := rfl
theorem mks_undef : mks undef = [] := rfl
attribute [go_sem] mks_addM mks_undef
theorem Keep.marks {H H' : Hp} {ms : List Nat} (hs : H'.size = H.size) (hk : ∀ k, k ∉ ms -> H'[k]? = H[k]?) : Keep (fun k => k ∈ ms) H H' := ⟨by omega, fun k _ h => hk k h⟩
end Go.Mg
