/- Functions that hand out rounds. -/
import Derived.Test.YtihlnbepcimnfaaDoorMgRf2
namespace Go.Mg
open Go Go.RowKit
set_option linter.unusedVariables false

def exY (P : Program) (tr : Operand → Option A) (o : Oper) : Option EX :=
  match o.op with
  | .call c => match c.callee with
    | .value (.tmp t) => (tr (.tmp t)).bind fun g => (trAs tr c.args.toList).map (.cally g)
    | _ => ex P tr o
  | _ => ex P tr o
def trOpsY (P : Program) (L : List Nat) (n : Nat) : List Oper → List Nat → Option (List O)
  | [], _ => some []
  | o :: r, e =>
    (trD L n o.dst).bind fun d =>
    if o.guard.isNone && noDef o then
      match px P (trA L e) o with
      | some x => (trOpsY P L n r (d.more e)).map (.p d x :: ·)
      | none => (exY P (trA L e) o).bind fun x => (trOpsY P L n r (d.more e)).map (.e d x :: ·)
    else none
def transY (P : Program) (L : List Nat) (n : Nat) : Code → Option S
  | .skip => some .skip
  | .region _ ops draw => if draw then none else (trOpsY P L n ops.toList []).map .reg
  | .seq a b => (transY P L n a).bind fun x => (transY P L n b).map (.seq x ·)
  | .cond c a b => (trA L [] c).bind fun c => (transY P L n a).bind fun x => (transY P L n b).map (.ite c x ·)
  | .block id c => (transY P L n c).map (.blk id ·)
  | .loop c => (transY P L n c).map .loop
  | .exit id => some (.exit id)
  | .ret => some .ret
  | _ => none
theorem exY_sound {P : Program} {o : Oper} {a : Act} {w : World} {tr : Operand → Option A} {r : A → Value} {x : EX} (hnd : noDef o = true) (hx : exY P tr o = some x) (htr : ∀ y z, tr y = some z → a.eval y = r z)
    {K : Value → Hp → Prop} (h : x.wp P r w.heap K) {next : Act → World → Prop} {Q : Exit → Act → World → Prop} (hn : ∀ v w', K v w'.heap → Same w w' → next (a.put o.dst v) w') : o.wpIn (fe none) 0 P a w next Q := by
  have plain : ex P tr o = some x → o.wpIn (fe none) 0 P a w next Q := fun hx => wp_lift none hnd (ex_sound hx htr h next Q hn)
  unfold exY at hx
  split at hx
  case h_2 => exact plain hx
  rename_i c hop
  split at hx
  case h_2 => exact plain hx
  rename_i t hc
  obtain ⟨g, hg, hx⟩ := Option.bind_eq_some_iff.1 hx
  obtain ⟨as, has, rfl⟩ := Option.map_eq_some_iff.1 hx
  obtain ⟨l, hv, hy⟩ := h
  obtain ⟨fn, tmps, asg, body, h1, h2⟩ := hy w rfl
  refine ⟨fun _ _ => trivial, ?_⟩
  rw [Oper.semAt_eq _ _ _ (noDef_spec hnd)]
  have hargs : c.args.map a.eval = (as.map r).toArray := by
    apply Array.ext'
    rw [Array.toList_map]
    exact trAs_map htr has
  have hev : a.eval (.tmp t) = .func (.yield l) #[] #[] := (htr _ _ hg).trans hv
  have hrun : (execOp a.eval o).run P w = .ok (.round l fn tmps asg body) w := by
    simp only [execOp, hop, resolve, hc, hev, hargs]
    simp only [go_sem, Deferred.ofValue, Sem.run_bind, Sem.run_pure, Result.andThen, invoke]
    simpa using h1
  rw [hrun]
  refine ⟨fe_depth none, h2.mono ?_⟩
  rintro e w' ⟨v, rfl, hk, hs⟩
  exact hn _ _ hk hs
theorem opsY_sound {P : Program} {D : List Deferred} {L : List Nat} {n : Nat} {all : Array Oper} {w0 : World} {Q : Fr → Hp → Prop} {Q' : Exit → Act → World → Prop}
    (hQ : ∀ f a w, Q f w.heap → Rel D L n a f → Same w0 w → Q' .normal a w) :
    ∀ (l : List Oper) (ks : List Nat) (l' : List O) (e : Env) (f : Fr) (a : Act) (w : World), trOpsY P L n l ks = some l' → RelE D L n ks e a f → Same w0 w → ops P l' e f w.heap Q → wpListIn (fe none) 0 P all Q' l a w := by
  intro l
  induction l with
  | nil =>
    intro ks l' e f a w hl hr hs h
    cases hl
    exact hQ f a w h hr.toRel hs
  | cons o l ih =>
    intro ks l' e f a w hl hr hs h
    simp only [trOpsY] at hl
    obtain ⟨d, hd, hl⟩ := Option.bind_eq_some_iff.1 hl
    split at hl
    case isFalse => cases hl
    rename_i hg
    simp only [Bool.and_eq_true, Option.isNone_iff_eq_none] at hg
    unfold wpListIn
    rw [if_pos (by simp [Region.wanted, hg.1])]
    split at hl
    · rename_i x hx
      obtain ⟨l2, hl2, rfl⟩ := Option.map_eq_some_iff.1 hl
      obtain ⟨hp, h⟩ := h
      refine wp_lift none hg.2 ?_
      unfold Oper.wp
      rw [px_sound hx hr.rd (fun _ => rfl) hp, Oper.upon_value]
      exact ih _ _ _ _ _ _ hl2 (hr.put hd _) hs h
    · obtain ⟨x, hx, hl⟩ := Option.bind_eq_some_iff.1 hl
      obtain ⟨l2, hl2, rfl⟩ := Option.map_eq_some_iff.1 hl
      exact exY_sound hg.2 hx hr.rd h fun v w' hk hw => ih _ _ _ _ _ _ hl2 (hr.put hd _) (hs.trans hw) hk
theorem vc_soundY {P : Program} {D : List Deferred} {L : List Nat} {n : Nat} : ∀ (c : Code) (s : S), transY P L n c = some s → ∀ (Q : Ex → Fr → Hp → Prop) (f : Fr) (a : Act) (w : World), vc P s Q f w.heap → Rel D L n a f →
    c.wp P (liftQ D L n w Q) a w := by
  intro c
  induction c with
  | skip =>
    intro s hs Q f a w h hr
    cases hs
    exact wp_skip ⟨.n, f, rfl, h, hr, Same.refl w⟩
  | exit id =>
    intro s hs Q f a w h hr
    cases hs
    exact wp_exit ⟨.x id, f, rfl, h, hr, Same.refl w⟩
  | ret =>
    intro s hs Q f a w h hr
    cases hs
    exact wp_ret ⟨.r, f, rfl, h, hr, Same.refl w⟩
  | region id all draw =>
    intro s hs Q f a w h hr
    simp only [transY] at hs
    have hrE : RelE D L n [] [] a f := ⟨hr, fun t _ h => by simp at h⟩
    cases draw with
    | true => simp at hs
    | false =>
      simp only [Bool.false_eq_true, if_false] at hs
      obtain ⟨l, hl, rfl⟩ := Option.map_eq_some_iff.1 hs
      refine (wpIn_wide (n := 0)).1 (wpIn_region_list ?_)
      exact opsY_sound (w0 := w) (Q := Q .n) (fun f' a' w' hq hr' hs' => ⟨.n, f', rfl, hq, hr', hs'⟩) _ _ _ _ _ _ _ hl hrE (Same.refl w) h
  | seq x y ihx ihy =>
    intro s hs Q f a w h hr
    simp only [transY] at hs
    obtain ⟨sx, hx, hs⟩ := Option.bind_eq_some_iff.1 hs
    obtain ⟨sy, hy, rfl⟩ := Option.map_eq_some_iff.1 hs
    refine wp_seq (wp_mono (ihx sx hx _ f a w h hr) ?_)
    rintro e a' w' ⟨e', f', rfl, hq, hr', hs'⟩
    cases e' with
    | n => exact wp_mono (ihy sy hy _ f' a' w' hq hr') fun _ _ _ h => liftQ_mono hs' h
    | x id => exact ⟨.x id, f', rfl, hq, hr', hs'⟩
    | r => exact ⟨.r, f', rfl, hq, hr', hs'⟩
  | cond c x y ihx ihy =>
    intro s hs Q f a w h hr
    simp only [transY] at hs
    obtain ⟨c', hc, hs⟩ := Option.bind_eq_some_iff.1 hs
    obtain ⟨sx, hx, hs⟩ := Option.bind_eq_some_iff.1 hs
    obtain ⟨sy, hy, rfl⟩ := Option.map_eq_some_iff.1 hs
    have hrE : RelE D L n [] [] a f := ⟨hr, fun t _ h => by simp at h⟩
    obtain ⟨hb, h1, h2⟩ := h
    have he := (hrE.rd _ _ hc).trans (isB_spec hb)
    exact wp_cond_split he (fun ht => ihx sx hx _ f a w (h1 ht) hr) (fun ht => ihy sy hy _ f a w (h2 ht) hr)
  | block id c ih =>
    intro s hs Q f a w h hr
    simp only [transY] at hs
    obtain ⟨sx, hx, rfl⟩ := Option.map_eq_some_iff.1 hs
    refine wp_block (wp_mono (ih sx hx _ f a w h hr) ?_)
    rintro e a' w' ⟨e', f', rfl, hq, hr', hs'⟩
    cases e' with
    | n => exact ⟨.n, f', rfl, hq, hr', hs'⟩
    | x i =>
      simp only [blkQ] at hq
      simp only [Ex.to, Exit.inBlock]
      split
      · rename_i hi; rw [if_pos hi] at hq; exact ⟨.n, f', rfl, hq, hr', hs'⟩
      · rename_i hi; rw [if_neg hi] at hq; exact ⟨.x i, f', rfl, hq, hr', hs'⟩
    | r => exact ⟨.r, f', rfl, hq, hr', hs'⟩
  | loop c ih =>
    intro s hs Q f a w h hr
    simp only [transY] at hs
    obtain ⟨sx, hx, rfl⟩ := Option.map_eq_some_iff.1 hs
    obtain ⟨I, ⟨m, h0⟩, hround⟩ := h
    refine wp_loop_ghost (fun k a' w' => ∃ f', I k f' w'.heap ∧ Rel D L n a' f' ∧ Same w w') m ⟨f, h0, hr, Same.refl w⟩ ?_
    rintro k a1 w1 ⟨f1, hI, hr1, hs1⟩
    refine wp_mono (ih sx hx _ f1 a1 w1 (hround k f1 w1.heap hI) hr1) ?_
    rintro e a' w' ⟨e', f', rfl, hq, hr', hs'⟩
    cases e' with
    | n =>
      obtain ⟨m', hm, hI'⟩ := hq
      exact ⟨m', hm, f', hI', hr', hs1.trans hs'⟩
    | x i => exact ⟨.x i, f', rfl, hq, hr', hs1.trans hs'⟩
    | r => exact ⟨.r, f', rfl, hq, hr', hs1.trans hs'⟩
  | _ => intro s hs; cases hs
def codeOfY (P : Program) (fn : Func) : Option (S × List RV) :=
  fn.body.bind fun c => (transY P (liveF fn) fn.ntmps c).bind fun s => (fn.results.toList.mapM (trR P (liveF fn))).map fun rs => (s, rs)
structure FnIsY (P : Program) (k : FuncId) (s : S) (rs : List RV) (np : Nat) : Prop where
  ok : ∃ fn c L, P.funcs[k]? = some fn ∧ fn.body = some c ∧ transY P L fn.ntmps c = some s ∧ fn.results.toList.mapM (trR P L) = some rs ∧ np ≤ fn.ntmps
  body : bodyOk P k = true
theorem FnIsY.mk' {P : Program} {k : FuncId} {fn : Func} {s : S} {rs : List RV} {np : Nat} (hf : P.funcs[k]? = some fn) (hc : codeOfY P fn = some (s, rs)) (hn : decide (np ≤ fn.ntmps) = true)
    (hb : (fn.name == "runtime.NumGoroutine") = false) : FnIsY P k s rs np := by
  unfold codeOfY at hc
  obtain ⟨c, h1, hc⟩ := Option.bind_eq_some_iff.1 hc
  obtain ⟨s', h2, hc⟩ := Option.bind_eq_some_iff.1 hc
  obtain ⟨rs', h3, hc⟩ := Option.map_eq_some_iff.1 hc
  cases hc
  refine ⟨⟨fn, c, _, hf, h1, h2, h3, of_decide_eq_true hn⟩, ?_⟩
  simp [bodyOk, hf, h1, hb]
theorem calls_of_vcY {P : Program} {k : FuncId} {s : S} {rs : List RV} {np : Nat} (hk : FnIsY P k s rs np) {args : List Value} (ha : args.length ≤ np) {H : Hp} {R : Value → Hp → Prop}
    (h : vc P s (retQ rs R) (look (enumA 0 args)) H) : CallsM P k args.toArray H R := by
  obtain ⟨⟨fn, c, L, hf, hb, ht, hres, hn⟩, _⟩ := hk
  intro w hw
  refine calls_of_wp hf hb ?_
  have look0 : ∀ t, look (enumA 0 args) t = args.getD t undef := fun t => by have := look_enumA args 0 t; rwa [Nat.zero_add] at this
  have hr : Rel [] L fn.ntmps { tmps := args.toArray ++ Array.replicate (fn.ntmps - args.toArray.size) undef, defers := [] } (look (enumA 0 args)) := by
    refine ⟨rfl, by simp; omega, fun t _ => ?_⟩
    rw [look0, Array.getD_eq_getD_getElem?, List.getD_eq_getElem?_getD]
    by_cases ht : t < args.length
    · simp [Array.getElem?_append, ht]
    · rw [Array.getElem?_append, if_neg (by simpa using ht), List.getElem?_eq_none (by omega)]
      simp only [Array.getElem?_replicate]
      split <;> rfl
  refine wp_mono (vc_soundY c s ht _ _ _ w (hw ▸ h) hr) ?_
  rintro e a' w' ⟨e', f', rfl, hq, hr', hs'⟩
  have fin : retQ rs R .r f' w'.heap → ∃ v, (results fn a'.tmps).run P w' = .ok v w' ∧ ∃ v', Ending.returned v = .returned v' ∧ R v' w'.heap ∧ Same w w' := by
    rintro ⟨h1, h2⟩
    exact ⟨_, results_run hr' hres h1, _, rfl, h2, hs'⟩
  cases e' with
  | n => obtain ⟨v, g1, v', g2, g3, g4⟩ := fin hq; exact ⟨hr'.d, v, g1, v', g2, g3, g4⟩
  | r => obtain ⟨v, g1, v', g2, g3, g4⟩ := fin hq; exact ⟨hr'.d, v, g1, v', g2, g3, g4⟩
  | x i => exact hq.elim
end Go.Mg
