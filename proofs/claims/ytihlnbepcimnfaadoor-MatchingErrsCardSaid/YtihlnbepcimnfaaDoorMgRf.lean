/- A range over a function: the rounds' bodies, the statement, and the iterators that hand out the rounds. -/
import Derived.Test.YtihlnbepcimnfaaDoorMgTvk
import Derived.RangeFuncCalls
import Derived.OrdersIn
namespace Go.Mg
open Go Go.RowKit
set_option linter.unusedVariables false

/-! ### a piece of code in a round's frame -/
def fe (ro : Option Nat) : Fence := { Fence.wide with round := ro }
theorem fe_none : fe none = Fence.wide := rfl
theorem fe_fn (ro : Option Nat) (f : FuncId) : (fe ro).fn f := trivial
theorem fe_depth (ro : Option Nat) : (fe ro).depth.isSome = true → 1 ≤ 0 := fun h => by cases h
theorem fe_calls {P : Program} {ro : Option Nat} {m : Nat} {f : FuncId} {args : Array Value} {w : World} {R : Ending → World → Prop} (h : Calls P f args w R) : CallsIn (fe ro) m P f args w R :=
  (callsIn_wide (n := m)).2 h
theorem fe_rows {P : Program} {ro : Option Nat} {m : Nat} {row : String} {args : Array Value} {w : World} {R : Value → World → Prop} (h : Rows P row args w R) : RowsIn (fe ro) m P row args w R :=
  fun c cs _ => let ⟨v, w', r, s⟩ := h c cs; ⟨v, w', r, stepsIn_wide.2 s⟩
def noDef (o : Oper) : Bool := match o.op with | .defer _ => false | _ => true
theorem noDef_spec {o : Oper} (h : noDef o = true) : ∀ c, o.op ≠ .defer c := fun c hc => by simp [noDef, hc] at h
theorem upon_lift {P : Program} {o : Oper} {a : Act} {next : Act → World → Prop} {Q : Exit → Act → World → Prop} {r : Result Next} (ro : Option Nat) (h : o.upon P a next Q r) : o.uponIn (fe ro) 0 P a next Q r := by
  cases r with
  | ok x w' =>
    cases x <;> simp only [Oper.upon, Oper.uponIn] at h ⊢ <;>
      first
        | exact h
        | exact ⟨fe_depth ro, fe_calls h⟩
        | exact ⟨fe_depth ro, fe_rows h⟩
        | exact h.elim
  | halt x w' => cases x <;> simp only [Oper.upon, Oper.uponIn] at h ⊢ <;> first | exact h | exact h.elim
theorem wp_lift {P : Program} {o : Oper} {a : Act} {w : World} {next : Act → World → Prop} {Q : Exit → Act → World → Prop} (ro : Option Nat) (hd : noDef o = true) (h : o.wp P a w next Q) : o.wpIn (fe ro) 0 P a w next Q := by
  refine ⟨fun _ _ => trivial, ?_⟩
  have e : o.semAt (fe ro).round a.eval = execOp a.eval o := Oper.semAt_eq _ _ _ (noDef_spec hd)
  rw [e]
  exact upon_lift ro h
theorem wpList_lift {P : Program} {ops : Array Oper} {Q : Exit → Act → World → Prop} (ro : Option Nat) (hQ : ¬ LetsOut Q) : ∀ (l : List Oper) (a : Act) (w : World), l.all noDef = true → wpList P ops Q l a w → wpListIn (fe ro) 0 P ops Q l a w
  | [], _, _, _, h => h
  | o :: l, a, w, hd, h => by
    simp only [List.all_cons, Bool.and_eq_true] at hd
    unfold wpList at h
    unfold wpListIn
    split
    · rename_i hw
      rw [if_pos hw] at h
      rcases h with h | h
      · exact Oper.wpIn_mono (fun a w h => wpList_lift ro hQ l a w hd.2 h) (wp_lift ro hd.1 h)
      · exact absurd h.2 hQ
    · rename_i hw
      rw [if_neg hw] at h
      exact ⟨fun _ _ => trivial, wpList_lift ro hQ l _ w hd.2 h⟩
theorem wpAny_lift {P : Program} {md : Region.Mode} {ops : Array Oper} {Q : Exit → Act → World → Prop} (ro : Option Nat) (hQ : ¬ LetsOut Q) (hd : ops.all noDef = true) : ∀ (k : Nat) (listed : Array Bool) (a : Act) (w : World), wpAny P md ops Q k listed a w → wpAnyIn (fe ro) 0 P md ops Q k listed a w
  | 0, _, _, _, h => h
  | k + 1, listed, a, w, h => by
    refine ⟨h.1, fun i hi => ?_⟩
    have h2 := h.2 i hi
    unfold wpOp at h2
    unfold wpOpIn
    split at h2
    · rename_i ho; simp only [ho]; exact wpAny_lift ro hQ hd k _ _ _ h2
    · rename_i o ho
      simp only [ho]
      have hdo : noDef o = true := by
        obtain ⟨hlt, he⟩ := Array.getElem?_eq_some_iff.1 ho
        have := Array.all_eq_true.1 hd i hlt
        rwa [he] at this
      split
      · rename_i hw
        rw [if_pos hw] at h2
        rcases h2 with h2 | h2
        · exact Oper.wpIn_mono (fun a w h => wpAny_lift ro hQ hd k _ a w h) (wp_lift ro hdo h2)
        · exact absurd h2.2 hQ
      · rename_i hw
        rw [if_neg hw] at h2
        exact ⟨fun _ _ => trivial, wpAny_lift ro hQ hd k _ _ _ h2⟩
theorem liftQ_letsOut {D : List Deferred} {L : List Nat} {n : Nat} {w0 : World} {Q : Ex → Fr → Hp → Prop} : ¬ LetsOut (liftQ D L n w0 Q) := by
  rintro ⟨a, w, e', f, he, _⟩
  cases e' <;> cases he

/-- the body of a round: no loop in it -/
def transB (P : Program) (L : List Nat) (n : Nat) : Code → Option S
  | .skip => some .skip
  | .region _ ops draw =>
    if ops.all noDef then
      if draw then (if Region.noSelect ops then (trT (fun o => swapL ops || clash ops o) P L n ops ops.size (Array.replicate ops.size false) []).map .dr else none)
      else (trOps P L n ops ops.toList []).map .reg
    else none
  | .seq a b => (transB P L n a).bind fun x => (transB P L n b).map (.seq x ·)
  | .cond c a b => (trA L [] c).bind fun c => (transB P L n a).bind fun x => (transB P L n b).map (.ite c x ·)
  | .block id c => (transB P L n c).map (.blk id ·)
  | .exit id => some (.exit id)
  | .ret => some .ret
  | _ => none
theorem vc_soundB {P : Program} (hmix : P.follows .mixedOrders = true) {D : List Deferred} {L : List Nat} {n : Nat} (ro : Option Nat) : ∀ (c : Code) (s : S), transB P L n c = some s → ∀ (Q : Ex → Fr → Hp → Prop) (f : Fr) (a : Act) (w : World), vc P s Q f w.heap → Rel D L n a f →
    c.wpIn (fe ro) 0 P (liftQ D L n w Q) a w := by
  intro c
  induction c with
  | skip =>
    intro s hs Q f a w h hr
    cases hs
    exact wpIn_skip ⟨.n, f, rfl, h, hr, Same.refl w⟩
  | region id all draw =>
    intro s hs Q f a w h hr
    simp only [transB] at hs
    split at hs
    case isFalse => cases hs
    rename_i hd
    have hrE : RelE D L n [] [] a f := ⟨hr, fun t _ h => by simp at h⟩
    cases draw with
    | false =>
      simp only [Bool.false_eq_true, if_false] at hs
      obtain ⟨l, hl, rfl⟩ := Option.map_eq_some_iff.1 hs
      refine wpIn_region_list (wpList_lift ro liftQ_letsOut _ _ _ (by simpa using hd) ?_)
      exact ops_sound (w0 := w) (Q := Q .n) (fun f' a' w' hq hr' hs' => ⟨.n, f', rfl, hq, hr', hs'⟩) _ _ _ _ _ _ _ hl hrE (Same.refl w) h
    | true =>
      simp only [if_true] at hs
      split at hs
      case isFalse => cases hs
      rename_i hsel
      obtain ⟨t, ht, rfl⟩ := Option.map_eq_some_iff.1 hs
      obtain ⟨C, hC, h⟩ := h
      refine wpIn_region_any hmix (wpAny_lift ro liftQ_letsOut hd _ _ _ _ (wpAny_of_held (S := fun w' => C w'.heap ∧ Same w w') _ _ _ _ ?_))
      exact trT_sound hsel (w0 := w) (Q := Q .n) (fun f' a' w' hq hr' hs' => ⟨.n, f', rfl, hq, hr', hs'⟩) (fun c a' w' ⟨e', _, he, _⟩ => by cases e' <;> cases he) _ _ _ _ _ _ _ _ _ ht hrE hC (drew_same w) h
  | seq x y ihx ihy =>
    intro s hs Q f a w h hr
    simp only [transB] at hs
    obtain ⟨sx, hx, hs⟩ := Option.bind_eq_some_iff.1 hs
    obtain ⟨sy, hy, rfl⟩ := Option.map_eq_some_iff.1 hs
    refine wpIn_seq (wpIn_mono (ihx sx hx _ f a w h hr) ?_)
    rintro e a' w' ⟨e', f', rfl, hq, hr', hs'⟩
    cases e' with
    | n => exact wpIn_mono (ihy sy hy _ f' a' w' hq hr') fun _ _ _ h => liftQ_mono hs' h
    | x id => exact ⟨.x id, f', rfl, hq, hr', hs'⟩
    | r => exact ⟨.r, f', rfl, hq, hr', hs'⟩
  | cond c x y ihx ihy =>
    intro s hs Q f a w h hr
    simp only [transB] at hs
    obtain ⟨c', hc, hs⟩ := Option.bind_eq_some_iff.1 hs
    obtain ⟨sx, hx, hs⟩ := Option.bind_eq_some_iff.1 hs
    obtain ⟨sy, hy, rfl⟩ := Option.map_eq_some_iff.1 hs
    have hrE : RelE D L n [] [] a f := ⟨hr, fun t _ h => by simp at h⟩
    obtain ⟨hb, h1, h2⟩ := h
    have he := (hrE.rd _ _ hc).trans (isB_spec hb)
    exact wpIn_cond_split he (fun ht => ihx sx hx _ f a w (h1 ht) hr) (fun ht => ihy sy hy _ f a w (h2 ht) hr)
  | block id c ih =>
    intro s hs Q f a w h hr
    simp only [transB] at hs
    obtain ⟨sx, hx, rfl⟩ := Option.map_eq_some_iff.1 hs
    refine wpIn_block (wpIn_mono (ih sx hx _ f a w h hr) ?_)
    rintro e a' w' ⟨e', f', rfl, hq, hr', hs'⟩
    cases e' with
    | n => exact ⟨.n, f', rfl, hq, hr', hs'⟩
    | x i =>
      simp only [blkQ] at hq
      simp only [Ex.to, Exit.inBlock]
      split
      · rename_i hi; rw [if_pos hi] at hq; exact ⟨.n, f', rfl, hq, hr', hs'⟩
      · rename_i hi; rw [if_neg hi] at hq; exact ⟨.x i, f', rfl, hq, hr', hs'⟩
    | r => exact ⟨.r, f', rfl, hq, hr', hs'⟩
  | exit id =>
    intro s hs Q f a w h hr
    cases hs
    exact wpIn_exit ⟨.x id, f, rfl, h, hr, Same.refl w⟩
  | ret =>
    intro s hs Q f a w h hr
    cases hs
    exact wpIn_ret ⟨.r, f, rfl, h, hr, Same.refl w⟩
  | _ => intro s hs; cases hs

/-! ### the statement -/
def mkD (v : Value) : List Deferred := (mks v).map fun m => { target := .collected m, args := #[] }
theorem mks_addM (v : Value) (d : Nat) : mks (addM v d) = d :: mks v := by
  simp [mks, addM, Value.i, Function.comp_def]
theorem mkD_addM (v : Value) (d : Nat) : mkD (addM v d) = { target := .collected d, args := #[] } :: mkD v := by
  unfold mkD; rw [mks_addM]; rfl
def Ex.code : Ex → Option Code
  | .n => none
  | .x id => some (.exit id)
  | .r => some .ret
theorem OnlyL.put {w : World} {l : Nat} {o : Obj} : OnlyL l w.heap (w.putObj l o).heap := ⟨World.putObj_size, fun _ hk => World.putObj_heap_other hk⟩
theorem OnlyL.keep {l : Nat} {H H' : Hp} (h : OnlyL l H H') : Keep (fun k => k = l) H H' := ⟨Nat.le_of_eq h.1.symm, fun k _ hk => h.2 k hk⟩
theorem put_same (w : World) (l : Nat) (o : Obj) : Same w (w.putObj l o) := ⟨rfl, rfl, rfl⟩
theorem getD_setIf (ts : Array Value) (p : Nat) (hp : p < ts.size) (x : Value) (t : Nat) : (ts.setIfInBounds p x).getD t undef = if t = p then x else ts.getD t undef := by
  simp only [Array.getD_eq_getD_getElem?, Array.getElem?_setIfInBounds]
  by_cases h : t = p
  · subst h; simp [hp]
  · rw [if_neg (fun e => h e.symm), if_neg h]

theorem asg_round {P : Program} {ro : Option Nat} {id p i : Nat} {ao : Oper} (ha : ao.op = .assign (.tmp p)) (had : ao.dst = some i) (hag : ao.guard = none) {K : Act → World → Prop} {a : Act} {w : World}
    (h : K (a.put (some i) (a.eval (.tmp p))) w) : (Code.region id #[ao] false).wpIn (fe ro) 0 P (Exit.then K (fun _ _ _ => False)) a w := by
  refine wpIn_region_list ?_
  unfold wpListIn
  show if Region.wanted ao (yielded #[ao] a.tmps) = true then _ else _
  rw [if_pos (by simp [Region.wanted, hag])]
  refine ⟨fun _ _ => trivial, ?_⟩
  rw [Oper.semAt_eq _ _ _ (fun c hc => by rw [ha] at hc; cases hc)]
  simp only [execOp, ha, Sem.run_pure, Oper.uponIn_value, had]
  exact h
theorem rf_sound {P : Program} (hmix : P.follows .mixedOrders = true) {D : List Deferred} {L : List Nat} {n : Nat} {gO : Operand} {ga : A} {p i : Nat} {id : Nat} {ao : Oper} {body : Code} {sb : S} {g : Nat}
    (hg : trA L [] gO = some ga) (hp : L.contains p = true) (hi : L.contains i = true) (hin : i < n) (hpn : p < n) (ha : ao.op = .assign (.tmp p)) (had : ao.dst = some i) (hag : ao.guard = none) (hb : transB P L n body = some sb)
    {Q : Ex → Fr → Hp → Prop} {f : Fr} {a : Act} {w : World} (hgn : L.contains g = false) (h : vc P (.rf g ga p i sb) Q f w.heap) (hr : Rel D L n a f) :
    (Code.rangeFunc gO #[p] (.region id #[ao] false) body).wpIn (fe none) 0 P (fun e a' w' => ∃ e' f', e = e'.to ∧ Q e' f' w'.heap ∧ Rel ({ target := .collected w.heap.size, args := #[] } :: D) L n a' f' ∧ Same w w' ∧ f' = upd f g (addM (f g) w.heap.size)) a w := by
  obtain ⟨gf, lb, xs, G, J, X, ⟨hv, hbo, hit⟩, hG, h0, ⟨hst, hsx⟩, hrd, hdone, hleft⟩ := h
  have hrE : RelE D L n [] [] a f := ⟨hr, fun t _ h => by simp at h⟩
  have hev : a.eval gO = .func (.func gf) #[] lb := (hrE.rd _ _ hg).trans hv
  refine wpIn_rangeFunc ?_
  intro fn _
  obtain ⟨rec, hrec⟩ : ∃ rec : LoopState → Option Code → Loop, rec = fun st pe => { state := st, pending := pe, fn, tmps := a.tmps, params := #[p], assign := .region id #[ao] false, body, defers := w.heap.size } := ⟨_, rfl⟩
  obtain ⟨W1, hW1⟩ : ∃ W1, (w.alloc (.deferred (some []))).alloc (.loop (rec .ready none)) = W1 := ⟨_, rfl⟩
  have hs1 : Same w W1 := by rw [← hW1]; exact ⟨rfl, rfl, rfl⟩
  have hL1 : W1.heap[w.heap.size + 1]? = some (.loop (rec .ready none)) := by
    rw [← hW1]; have := World.alloc_heap_new (w.alloc (.deferred (some []))) (.loop (rec .ready none)); rwa [World.size_alloc] at this
  have hJ1 : J 0 W1.heap := by
    refine h0 _ (by rw [← hW1]; simp) (fun k hk => ?_) ?_
    · rw [← hW1]
      show ((w.heap.push _).push _)[k]? = _
      rw [Array.getElem?_push, if_neg (by simp; omega), Array.getElem?_push, if_neg (by omega)]
    · rw [← hW1]
      show ((w.heap.push _).push _)[w.heap.size]? = _
      rw [Array.getElem?_push, if_neg (by simp), Array.getElem?_push, if_pos rfl]
  refine ⟨w.heap.size + 1, [{ target := .collected w.heap.size, args := #[] }], W1, { target := .fn (.func gf) lb, args := #[.func (.yield (w.heap.size + 1)) #[] #[]] }, W1, gf,
    #[.func (.yield (w.heap.size + 1)) #[] #[]] ++ lb, W1, ?_, ?_, fun _ _ => trivial, ?_, fe_depth none, ?_⟩
  · rw [← hW1, hrec]; exact run_enterLoop_outer _ _ _ _ _
  · simp only [resolve, hev]
    simp [go_sem]
  · simp only [invoke, go_sem]
    exact call_run hbo
  · refine (fe_calls (ro := none) (hit (w.heap.size + 1) (fun k H => J k H ∧ H[w.heap.size + 1]? = some (.loop (rec .ready none)))
      (fun H => ∃ e : Ex, e ≠ .n ∧ X e H ∧ H[w.heap.size + 1]? = some (.loop (rec .done e.code))) ?_ (fun k H h => hG k H h.1) _ ⟨hJ1, hL1⟩ W1 rfl)).mono ?_
    · -- one round
      rintro k H hk ⟨hj, hl⟩ W rfl
      generalize hx : xs.getD k undef = x
      have hlt : w.heap.size + 1 < W.heap.size := (Array.getElem?_eq_some_iff.1 hl).1
      have hy : (Instr.yield (w.heap.size + 1) #[x]).run P W = .ok (.round (w.heap.size + 1) fn (a.tmps.setIfInBounds p x) (.region id #[ao] false) body) W := by
        have := run_yield (P := P) (args := #[x]) hl (by rw [hrec]; rfl)
        rw [hrec] at this
        simpa using this
      refine ⟨fn, _, _, _, hy, ?_⟩
      refine roundIn_of_wpIn (F := Fence.wide) (n := 0) trivial ?_
      have hfe : Fence.wide.inRound (w.heap.size + 1) = fe (some (w.heap.size + 1)) := rfl
      rw [hfe]
      have hrp : Rel [] L n { tmps := a.tmps.setIfInBounds p x, defers := [] } (upd f p x) := by
        refine ⟨rfl, by simp [hr.s], fun t ht => ?_⟩
        simp only [upd]
        rw [getD_setIf _ _ (by rw [hr.s]; exact hpn)]
        split
        · rfl
        · exact hr.l t ht
      have hxe : (({ tmps := a.tmps.setIfInBounds p x, defers := [] } : Act).eval (.tmp p)) = x := by
        show (a.tmps.setIfInBounds p x).getD p undef = x
        rw [getD_setIf _ _ (by rw [hr.s]; exact hpn), if_pos rfl]
      refine asg_round ha had hag ?_
      rw [hxe]
      refine ⟨W.putObj (w.heap.size + 1) (.loop { rec .ready none with state := .busy }), run_beginRound hl (by rw [hrec]), ?_⟩
      have hl2 : (W.putObj (w.heap.size + 1) (.loop { rec .ready none with state := .busy })).heap[w.heap.size + 1]? = some (.loop { rec .ready none with state := .busy }) := World.putObj_heap_same hlt
      have hj2 := hst _ _ _ hj (OnlyL.put (w := W) (o := .loop { rec .ready none with state := .busy }))
      have hrd2 := hrd k _ hk hj2
      rw [hx] at hrd2
      generalize hW2 : W.putObj (w.heap.size + 1) (.loop { rec .ready none with state := .busy }) = W2 at hl2 hj2 hrd2 ⊢
      have hs2 : Same W W2 := by rw [← hW2]; exact put_same _ _ _
      have hri : Rel [] L n (({ tmps := a.tmps.setIfInBounds p x, defers := [] } : Act).put (some i) x) (upd (upd f p x) i x) := by
        refine ⟨rfl, by simp [Act.put, hr.s], fun t ht => ?_⟩
        rw [getD_put _ _ (by rw [hrp.s]; exact hin)]
        simp only [upd]
        split
        · rfl
        · exact hrp.l t ht
      refine wpIn_mono (n := 0) (vc_soundB hmix (some (w.heap.size + 1)) body sb hb _ _ _ W2 hrd2 hri) ?_
      rintro e a3 W3 ⟨e', f3, rfl, ⟨hk3, hj3⟩, _, hs3⟩
      have hl3 : W3.heap[w.heap.size + 1]? = some (.loop { rec .ready none with state := .busy }) := hk3.trans hl2
      have fin : ∀ jump : Option Code, (Instr.endRound (w.heap.size + 1) jump).run P W3 = .ok (.bool jump.isNone) (W3.putObj (w.heap.size + 1) (.loop (rec (if jump.isNone then .ready else .done) jump))) ∧
          (W3.putObj (w.heap.size + 1) (.loop (rec (if jump.isNone then .ready else .done) jump))).heap[w.heap.size + 1]? = some (.loop (rec (if jump.isNone then .ready else .done) jump)) := fun jump => by
        have := run_endRound (P := P) jump hl3
        rw [hrec] at this ⊢
        exact ⟨this, World.putObj_heap_same (Array.getElem?_eq_some_iff.1 hl3).1⟩
      have hss : Same W W3 := hs2.trans hs3
      cases e' with
      | n =>
        obtain ⟨h1, h2⟩ := fin none
        exact ⟨_, _, h1, _, rfl, .inl ⟨rfl, hst _ _ _ hj3 OnlyL.put, h2⟩, hss.trans (put_same _ _ _)⟩
      | x id =>
        obtain ⟨h1, h2⟩ := fin (some (.exit id))
        exact ⟨_, _, h1, _, rfl, .inr ⟨rfl, .x id, by simp, hsx _ _ _ hj3 OnlyL.put, h2⟩, hss.trans (put_same _ _ _)⟩
      | r =>
        obtain ⟨h1, h2⟩ := fin (some .ret)
        exact ⟨_, _, h1, _, rfl, .inr ⟨rfl, .r, by simp, hsx _ _ _ hj3 OnlyL.put, h2⟩, hss.trans (put_same _ _ _)⟩
    · rintro e W2 ⟨v, rfl, hs2, hJ⟩
      have hrel : Rel ({ target := .collected w.heap.size, args := #[] } :: D) L n { a with defers := [{ target := .collected w.heap.size, args := #[] }] ++ a.defers } (upd f g (addM (f g) w.heap.size)) := by
        refine ⟨by simp [hr.d], hr.s, fun t ht => ?_⟩
        have : t ≠ g := fun e => by subst e; rw [hgn] at ht; cases ht
        simp only [upd, if_neg this]
        exact hr.l t ht
      rcases hJ with ⟨hj, hl⟩ | ⟨e', hne, hx, hl⟩
      · refine ⟨none, _, by have := run_endLoop (P := P) hl (by rw [hrec]; simp); rw [hrec] at this; exact this, ?_⟩
        exact ⟨.n, _, rfl, hdone _ (hst _ _ _ hj OnlyL.put), hrel, (hs1.trans hs2).trans (put_same _ _ _), rfl⟩
      · refine ⟨e'.code, _, by have := run_endLoop (P := P) hl (by rw [hrec]; simp); rw [hrec] at this; exact this, ?_⟩
        have hq := fun o => hleft e' _ (hsx _ _ _ hx (OnlyL.put (w := W2) (o := o)))
        cases e' with
        | n => exact absurd rfl hne
        | x id => exact wpIn_exit ⟨.x id, _, rfl, hq _, hrel, (hs1.trans hs2).trans (put_same _ _ _), rfl⟩
        | r => exact wpIn_ret ⟨.r, _, rfl, hq _, hrel, (hs1.trans hs2).trans (put_same _ _ _), rfl⟩
end Go.Mg
