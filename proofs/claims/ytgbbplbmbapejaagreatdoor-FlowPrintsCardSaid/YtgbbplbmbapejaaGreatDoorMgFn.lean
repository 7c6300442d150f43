/- Part of the proof of FlowPrintsCardSaid: a lemma text of ours, over the kit alone. No conditions. -/
import Derived.Test.YtgbbplbmbapejaaGreatDoorMgSnd2
set_option linter.all false
namespace Go.Mg
open Go Go.RowKit
inductive RV where
 | t (n : Nat)
 | c1 (n : Nat)
 | cn (n size : Nat)
def trR (P : Program) (L : List Nat) : ResultVar -> Option RV
 | .tmp t => if L.contains t then some (.t t) else none
 | .cell a ty => if L.contains a then (if plain1 P ty then some (.c1 a) else if aggr P ty then some (.cn a (P.cellsOf ty)) else none) else none
def RV.pre (f : Fr) (H : Hp) : RV -> Prop
 | .t _ => True
 | .c1 n => (ldO H (f n)).isSome = true
 | .cn n s => (ldNO H (f n) s).isSome = true
def RV.val (f : Fr) (H : Hp) : RV -> Value
 | .t n => f n
 | .c1 n => (ldO H (f n)).getD undef
 | .cn n s => .agg ((ldNO H (f n) s).getD #[])
def resPre (f : Fr) (H : Hp) : List RV -> Prop
 | [] => True
 | r :: l => r.pre f H /\ resPre f H l
def resVal (f : Fr) (H : Hp) : List RV -> Value
 | [r] => r.val f H
 | l => .tuple (l.map (RV.val f H)).toArray
def retQ (rs : List RV) (R : Value -> Hp -> Prop) : Ex -> Fr -> Hp -> Prop
 | .x _, _, _ => False
 | _, f, H => resPre f H rs /\ R (resVal f H rs) H
def enumA : Nat -> List Value -> Env
 | _, [] => []
 | k, x :: l => (k, x) :: enumA (k + 1) l
def rdT : Operand -> List Nat
 | .tmp t => [t]
 | _ => []
def liveOps : List Nat -> List Oper -> List Nat
 | _, [] => []
 | ds, o :: l => (o.op.operands.toList.flatMap rdT).filter (fun t => !ds.contains t) ++ liveOps (match o.dst with | some d => d :: ds | none => ds) l
def live : Code -> List Nat
 | .region _ ops _ => liveOps [] ops.toList
 | .seq a b => live a ++ live b
 | .cond c a b => rdT c ++ live a ++ live b
 | .block _ c => live c
 | .loop c => live c
 | .rangeFunc g ps a b => rdT g ++ ps.toList ++ live a ++ live b
 | _ => []
def liveR : ResultVar -> List Nat
 | .tmp t => [t]
 | .cell a _ => [a]
def liveF (fn : Func) : List Nat := ((match fn.body with | some c => live c | none => []) ++ fn.results.toList.flatMap liveR).eraseDups
def codeOf (P : Program) (fn : Func) : Option (S × List RV) :=
 fn.body.bind fun c => (trans P (liveF fn) fn.ntmps c).bind fun s => (fn.results.toList.mapM (trR P (liveF fn))).map fun rs => (s, rs)
structure FnIs (P : Program) (k : FuncId) (s : S) (rs : List RV) (np : Nat) : Prop where
 ok : ∃ fn c L, P.funcs[k]? = some fn /\ fn.body = some c /\ trans P L fn.ntmps c = some s /\ fn.results.toList.mapM (trR P L) = some rs /\ np <= fn.ntmps
 mix : P.follows .mixedOrders = true
 body : bodyOk P k = true
theorem FnIs.mk' {P : Program} {k : FuncId} {fn : Func} {s : S} {rs : List RV} {np : Nat} (hf : P.funcs[k]? = some fn) (hm : P.follows .mixedOrders = true) (hc : codeOf P fn = some (s, rs)) (hn : decide (np <= fn.ntmps) = true)
  (hb : (fn.name == "runtime.NumGoroutine") = false) : FnIs P k s rs np := by
 unfold codeOf at hc
 obtain ⟨c, h1, hc⟩ := Option.bind_eq_some_iff.1 hc
 obtain ⟨s', h2, hc⟩ := Option.bind_eq_some_iff.1 hc
 obtain ⟨rs', h3, hc⟩ := Option.map_eq_some_iff.1 hc
 cases hc
 refine ⟨⟨fn, c, _, hf, h1, h2, h3, of_decide_eq_true hn⟩, hm, ?_⟩
 simp [bodyOk, hf, h1, hb]
theorem look_enumA : ∀ (l : List Value) (k t : Nat), look (enumA k l) (k + t) = l.getD t undef
 | [], k, t => by simp [enumA, look]
 | x :: l, k, t => by
  cases t with
  | zero => simp [enumA, look]
  | succ t =>
   have := look_enumA l (k + 1) t
   simp only [enumA, look]
   rw [if_neg (by omega), show k + (t + 1) = k + 1 + t by omega, this]
   simp
def rvS (tm : Array Value) : ResultVar -> Sem Value
 | .tmp t => pure (tm.getD t undef)
 | .cell b t => do loadVar t (← asAddr (tm.getD b undef))
theorem results_rvS (fn : Func) (tm : Array Value) : results fn tm = (do let vs <- fn.results.mapM (rvS tm); pure (if h : vs.size = 1 then vs[0] else .tuple vs)) := by
 unfold results
 congr 1
theorem res_run {P : Program} {D : List Deferred} {L : List Nat} {n : Nat} {a : Act} {f : Fr} (hr : Rel D L n a f) {w : World} : ∀ {rv : List ResultVar} {rs : List RV}, rv.mapM (trR P L) = some rs -> resPre f w.heap rs →
  (rv.mapM (rvS a.tmps)).run P w = .ok (rs.map (RV.val f w.heap)) w
 | [], rs, h, _ => by cases h; simp
 | x :: l, rs, h, hp => by
  simp only [List.mapM_cons, bind, Option.bind_eq_some_iff] at h
  obtain ⟨y, hy, ys, hys, h⟩ := h
  cases h
  obtain ⟨p1, p2⟩ := hp
  have ih := res_run hr (w := w) hys p2
  have h1 : (rvS a.tmps x).run P w = .ok (y.val f w.heap) w := by
   cases x with
   | tmp t =>
    simp only [trR] at hy
    split at hy
    ·rename_i hc; cases hy; simp only [rvS, Sem.run_pure, RV.val, hr.l t hc]
    ·cases hy
   | cell b t =>
    simp only [trR] at hy
    split at hy
    case isFalse => cases hy
    rename_i hc
    have hv := hr.l b hc
    split at hy
    ·rename_i hpl
     cases hy
     simp only [RV.pre] at p1
     simp only [RV.val]
     simp only [rvS, hv]
     unfold ldO at *
     split at p1
     case h_2 => cases p1
     rename_i p hfp
     obtain ⟨v, hv2⟩ := Option.isSome_iff_exists.1 p1
     rw [hfp]
     simp only [hv2, asAddr, loadVar, Sem.run_bind, Sem.run_pure, Result.andThen, isAgg_plain hpl, Bool.false_eq_true, if_false, load_run rfl hv2, Option.getD_some]
    ·split at hy
     case isFalse => cases hy
     rename_i hag
     cases hy
     simp only [RV.pre] at p1
     simp only [RV.val]
     simp only [rvS, hv]
     unfold ldNO at *
     split at p1
     case h_2 => cases p1
     rename_i p hfp
     obtain ⟨v, hv2⟩ := Option.isSome_iff_exists.1 p1
     rw [hfp]
     obtain ⟨g1, g2⟩ := isAgg_aggr hag w
     simp only [hv2, asAddr, loadVar, Sem.run_bind, Sem.run_pure, Result.andThen, g1, if_true, sizeOf_run' P t g2, ldN_run hv2, Option.getD_some]
  simp [List.mapM_cons, h1, ih, Result.andThen]
theorem calls_of_vc {P : Program} {k : FuncId} {s : S} {rs : List RV} {np : Nat} (hk : FnIs P k s rs np) {args : List Value} (ha : args.length <= np) {H : Hp} {R : Value -> Hp -> Prop}
  (h : vc P s (retQ rs R) (look (enumA 0 args)) H) : CallsM P k args.toArray H R := by
 obtain ⟨⟨fn, c, L, hf, hb, ht, hres, hn⟩, hmix, _⟩ := hk
 intro w hw
 refine calls_of_wp hf hb ?_
 have hr : Rel [] L fn.ntmps { tmps := args.toArray ++ Array.replicate (fn.ntmps - args.toArray.size) undef, defers := [] } (look (enumA 0 args)) := by
  refine ⟨rfl, by simp; omega, fun t _ => ?_⟩
  have := look_enumA args 0 t
  rw [Nat.zero_add] at this
  rw [this, Array.getD_eq_getD_getElem?, List.getD_eq_getElem?_getD]
  by_cases ht : t < args.length
  ·simp [Array.getElem?_append, ht]
  ·rw [Array.getElem?_append, if_neg (by simpa using ht), List.getElem?_eq_none (by omega)]
   simp only [Array.getElem?_replicate]
   split <;> rfl
 refine wp_mono (vc_sound hmix c s ht _ _ _ w (hw ▸ h) hr) ?_
 rintro e a' w' ⟨e', f', rfl, hq, hr', hs'⟩
 have fin : retQ rs R .r f' w'.heap -> ∃ v, (results fn a'.tmps).run P w' = .ok v w' /\ ∃ v', Ending.returned v = .returned v' /\ R v' w'.heap /\ Same w w' := by
  rintro ⟨h1, h2⟩
  refine ⟨_, ?_, _, rfl, h2, hs'⟩
  have hrun := res_run (P := P) hr' (w := w') hres h1
  rw [results_rvS, Array.mapM_eq_mapM_toList]
  simp only [bind_pure_comp, Functor.map_map, Sem.run_map]
  rw [hrun]
  simp only [Result.andThen]
  congr 1
  cases rs with
  | nil => rfl
  | cons r l => cases l with
   | nil => rfl
   | cons r2 l => simp [resVal]
 cases e' with
 | n => obtain ⟨v, g1, v', g2, g3, g4⟩ := fin hq; exact ⟨hr'.d, v, g1, v', g2, g3, g4⟩
 | r => obtain ⟨v, g1, v', g2, g3, g4⟩ := fin hq; exact ⟨hr'.d, v, g1, v', g2, g3, g4⟩
 | x i => exact hq.elim
end Go.Mg
