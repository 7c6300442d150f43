/- Several texts of ours in one. No conditions. -/
import Derived.Test.YtgbbplbmbapejaaGreatDoorMgTvk
import Derived.RangeFuncCalls
import Derived.OrdersIn
import Derived.Test.YtgbbplbmbapejaaGreatDoorMgEl
namespace Go.Mg
open Go Go.RowKit
set_option linter.all false
def fe (ro : Option Nat) : Fence := { Fence.wide with round := ro }
theorem fe_depth (ro : Option Nat) : (fe ro).depth.isSome = true -> 1 <= 0 := fun h => by cases h
theorem fe_calls {P : Program} {ro : Option Nat} {m : Nat} {f : FuncId} {args : Array Value} {w : World} {R : Ending -> World -> Prop} (h : Calls P f args w R) : CallsIn (fe ro) m P f args w R :=
 (callsIn_wide (n := m)).2 h
theorem fe_rows {P : Program} {ro : Option Nat} {m : Nat} {row : String} {args : Array Value} {w : World} {R : Value -> World -> Prop} (h : Rows P row args w R) : RowsIn (fe ro) m P row args w R :=
 fun c cs _ => let ⟨v, w', r, s⟩ := h c cs; ⟨v, w', r, stepsIn_wide.2 s⟩
def noDef (o : Oper) : Bool := match o.op with | .defer _ => false | _ => true
theorem noDef_spec {o : Oper} (h : noDef o = true) : ∀ c, o.op ≠ .defer c := fun c hc => by simp [noDef, hc] at h
theorem upon_lift {P : Program} {o : Oper} {a : Act} {next : Act -> World -> Prop} {Q : Exit -> Act -> World -> Prop} {r : Result Next} (ro : Option Nat) (h : o.upon P a next Q r) : o.uponIn (fe ro) 0 P a next Q r := by
 cases r with
 | ok x w' =>
  cases x <;> simp only [Oper.upon, Oper.uponIn] at h ⊢ <;>
   first
    | exact h
    | exact ⟨fe_depth ro, fe_calls h⟩
    | exact ⟨fe_depth ro, fe_rows h⟩
    | exact h.elim
 | halt x w' => cases x <;> simp only [Oper.upon, Oper.uponIn] at h ⊢ <;> first | exact h | exact h.elim
theorem wp_lift {P : Program} {o : Oper} {a : Act} {w : World} {next : Act -> World -> Prop} {Q : Exit -> Act -> World -> Prop} (ro : Option Nat) (hd : noDef o = true) (h : o.wp P a w next Q) : o.wpIn (fe ro) 0 P a w next Q := by
 refine ⟨fun _ _ => trivial, ?_⟩
 have e : o.semAt (fe ro).round a.eval = execOp a.eval o := Oper.semAt_eq _ _ _ (noDef_spec hd)
 rw [e]
 exact upon_lift ro h
theorem wpList_lift {P : Program} {ops : Array Oper} {Q : Exit -> Act -> World -> Prop} (ro : Option Nat) (hQ : ¬ LetsOut Q) : ∀ (l : List Oper) (a : Act) (w : World), l.all noDef = true -> wpList P ops Q l a w -> wpListIn (fe ro) 0 P ops Q l a w
 | [], _, _, _, h => h
 | o :: l, a, w, hd, h => by
  simp only [List.all_cons, Bool.and_eq_true] at hd
  unfold wpList at h
  unfold wpListIn
  split
  ·rename_i hw
   rw [if_pos hw] at h
   rcases h with h | h
   ·exact Oper.wpIn_mono (fun a w h => wpList_lift ro hQ l a w hd.2 h) (wp_lift ro hd.1 h)
   ·exact absurd h.2 hQ
  ·rename_i hw
   rw [if_neg hw] at h
   exact ⟨fun _ _ => trivial, wpList_lift ro hQ l _ w hd.2 h⟩
theorem wpAny_lift {P : Program} {md : Region.Mode} {ops : Array Oper} {Q : Exit -> Act -> World -> Prop} (ro : Option Nat) (hQ : ¬ LetsOut Q) (hd : ops.all noDef = true) : ∀ (k : Nat) (listed : Array Bool) (a : Act) (w : World), wpAny P md ops Q k listed a w -> wpAnyIn (fe ro) 0 P md ops Q k listed a w
 | 0, _, _, _, h => h
 | k + 1, listed, a, w, h => by
  refine ⟨h.1, fun i hi => ?_⟩
  have h2 := h.2 i hi
  unfold wpOp at h2
  unfold wpOpIn
  split at h2
  ·rename_i ho; simp only [ho]; exact wpAny_lift ro hQ hd k _ _ _ h2
  ·rename_i o ho
   simp only [ho]
   have hdo : noDef o = true := by
    obtain ⟨hlt, he⟩ := Array.getElem?_eq_some_iff.1 ho
    have := Array.all_eq_true.1 hd i hlt
    rwa [he] at this
   split
   ·rename_i hw
    rw [if_pos hw] at h2
    rcases h2 with h2 | h2
    ·exact Oper.wpIn_mono (fun a w h => wpAny_lift ro hQ hd k _ a w h) (wp_lift ro hdo h2)
    ·exact absurd h2.2 hQ
   ·rename_i hw
    rw [if_neg hw] at h2
    exact ⟨fun _ _ => trivial, wpAny_lift ro hQ hd k _ _ _ h2⟩
theorem liftQ_letsOut {D : List Deferred} {L : List Nat} {n : Nat} {w0 : World} {Q : Ex -> Fr -> Hp -> Prop} : ¬ LetsOut (liftQ D L n w0 Q) := by
 rintro ⟨a, w, e', f, he, _⟩
 cases e' <;> cases he
def transB (P : Program) (L : List Nat) (n : Nat) : Code -> Option S
 | .skip => some .skip
 | .region _ ops draw =>
  if ops.all noDef then
   if draw then (if Region.noSelect ops then (trT (fun o => swapL ops || clash ops o) P L n ops ops.size (Array.replicate ops.size false) []).map .dr else none)
   else (trOps P L n ops ops.toList []).map .reg
  else none
 | .seq a b => (transB P L n a).bind fun x => (transB P L n b).map (.seq x ·)
 | .cond c a b => (trA L [] c).bind fun c => (transB P L n a).bind fun x => (transB P L n b).map (.ite c x ·)
 | .block id c => (transB P L n c).map (.blk id ·)
 | .exit id => some (.exit id)
 | .ret => some .ret
 | _ => none
theorem vc_soundB {P : Program} (hmix : P.follows .mixedOrders = true) {D : List Deferred} {L : List Nat} {n : Nat} (ro : Option Nat) : ∀ (c : Code) (s : S), transB P L n c = some s -> ∀ (Q : Ex -> Fr -> Hp -> Prop) (f : Fr) (a : Act) (w : World), vc P s Q f w.heap -> Rel D L n a f →
  c.wpIn (fe ro) 0 P (liftQ D L n w Q) a w := by
 intro c
 induction c with
 | skip =>
  intro s hs Q f a w h hr
  cases hs
  exact wpIn_skip ⟨.n, f, rfl, h, hr, Same.refl w⟩
 | region id all draw =>
  intro s hs Q f a w h hr
  simp only [transB] at hs
  split at hs
  case isFalse => cases hs
  rename_i hd
  have hrE : RelE D L n [] [] a f := ⟨hr, fun t _ h => by simp at h⟩
  cases draw with
  | false =>
   simp only [Bool.false_eq_true, if_false] at hs
   obtain ⟨l, hl, rfl⟩ := Option.map_eq_some_iff.1 hs
   refine wpIn_region_list (wpList_lift ro liftQ_letsOut _ _ _ (by simpa using hd) ?_)
   exact ops_sound (w0 := w) (Q := Q .n) (fun f' a' w' hq hr' hs' => ⟨.n, f', rfl, hq, hr', hs'⟩) _ _ _ _ _ _ _ hl hrE (Same.refl w) h
  | true =>
   simp only [if_true] at hs
   split at hs
   case isFalse => cases hs
   rename_i hsel
   obtain ⟨t, ht, rfl⟩ := Option.map_eq_some_iff.1 hs
   obtain ⟨C, hC, h⟩ := h
   refine wpIn_region_any hmix (wpAny_lift ro liftQ_letsOut hd _ _ _ _ (wpAny_of_held (S := fun w' => C w'.heap /\ Same w w') _ _ _ _ ?_))
   exact trT_sound hsel (w0 := w) (Q := Q .n) (fun f' a' w' hq hr' hs' => ⟨.n, f', rfl, hq, hr', hs'⟩) (fun c a' w' ⟨e', _, he, _⟩ => by cases e' <;> cases he) _ _ _ _ _ _ _ _ _ ht hrE hC (drew_same w) h
 | seq x y ihx ihy =>
  intro s hs Q f a w h hr
  simp only [transB] at hs
  obtain ⟨sx, hx, hs⟩ := Option.bind_eq_some_iff.1 hs
  obtain ⟨sy, hy, rfl⟩ := Option.map_eq_some_iff.1 hs
  refine wpIn_seq (wpIn_mono (ihx sx hx _ f a w h hr) ?_)
  rintro e a' w' ⟨e', f', rfl, hq, hr', hs'⟩
  cases e' with
  | n => exact wpIn_mono (ihy sy hy _ f' a' w' hq hr') fun _ _ _ h => liftQ_mono hs' h
  | x id => exact ⟨.x id, f', rfl, hq, hr', hs'⟩
  | r => exact ⟨.r, f', rfl, hq, hr', hs'⟩
 | cond c x y ihx ihy =>
  intro s hs Q f a w h hr
  simp only [transB] at hs
  obtain ⟨c', hc, hs⟩ := Option.bind_eq_some_iff.1 hs
  obtain ⟨sx, hx, hs⟩ := Option.bind_eq_some_iff.1 hs
  obtain ⟨sy, hy, rfl⟩ := Option.map_eq_some_iff.1 hs
  have hrE : RelE D L n [] [] a f := ⟨hr, fun t _ h => by simp at h⟩
  obtain ⟨hb, h1, h2⟩ := h
  have he := (hrE.rd _ _ hc).trans (isB_spec hb)
  exact wpIn_cond_split he (fun ht => ihx sx hx _ f a w (h1 ht) hr) (fun ht => ihy sy hy _ f a w (h2 ht) hr)
 | block id c ih =>
  intro s hs Q f a w h hr
  simp only [transB] at hs
  obtain ⟨sx, hx, rfl⟩ := Option.map_eq_some_iff.1 hs
  refine wpIn_block (wpIn_mono (ih sx hx _ f a w h hr) ?_)
  rintro e a' w' ⟨e', f', rfl, hq, hr', hs'⟩
  cases e' with
  | n => exact ⟨.n, f', rfl, hq, hr', hs'⟩
  | x i =>
   simp only [blkQ] at hq
   simp only [Ex.to, Exit.inBlock]
   split
   ·rename_i hi; rw [if_pos hi] at hq; exact ⟨.n, f', rfl, hq, hr', hs'⟩
   ·rename_i hi; rw [if_neg hi] at hq; exact ⟨.x i, f', rfl, hq, hr', hs'⟩
  | r => exact ⟨.r, f', rfl, hq, hr', hs'⟩
 | exit id =>
  intro s hs Q f a w h hr
  cases hs
  exact wpIn_exit ⟨.x id, f, rfl, h, hr, Same.refl w⟩
 | ret =>
  intro s hs Q f a w h hr
  cases hs
  exact wpIn_ret ⟨.r, f, rfl, h, hr, Same.refl w⟩
 | _ => intro s hs; cases hs
def mkD (v : Value) : List Deferred := (mks v).map fun m => { target := .collected m, args := #[] }
theorem mks_addM (v : Value) (d : Nat) : mks (addM v d) = d :: mks v := by
 simp [mks, addM, Value.i, Function.comp_def]
theorem mkD_addM (v : Value) (d : Nat) : mkD (addM v d) = { target := .collected d, args := #[] } :: mkD v := by
 unfold mkD; rw [mks_addM]; rfl
def Ex.code : Ex -> Option Code
 | .n => none
 | .x id => some (.exit id)
 | .r => some .ret
theorem OnlyL.put {w : World} {l : Nat} {o : Obj} : OnlyL l w.heap (w.putObj l o).heap := ⟨World.putObj_size, fun _ hk => World.putObj_heap_other hk⟩
theorem OnlyL.keep {l : Nat} {H H' : Hp} (h : OnlyL l H H') : Keep (fun k => k = l) H H' := ⟨Nat.le_of_eq h.1.symm, fun k _ hk => h.2 k hk⟩
theorem put_same (w : World) (l : Nat) (o : Obj) : Same w (w.putObj l o) := ⟨rfl, rfl, rfl⟩
theorem getD_setIf (ts : Array Value) (p : Nat) (hp : p < ts.size) (x : Value) (t : Nat) : (ts.setIfInBounds p x).getD t undef = if t = p then x else ts.getD t undef := by
 simp only [Array.getD_eq_getD_getElem?, Array.getElem?_setIfInBounds]
 by_cases h : t = p
 ·subst h; simp [hp]
 ·rw [if_neg (fun e => h e.symm), if_neg h]
theorem asg_round {P : Program} {ro : Option Nat} {id p i : Nat} {ao : Oper} (ha : ao.op = .assign (.tmp p)) (had : ao.dst = some i) (hag : ao.guard = none) {K : Act -> World -> Prop} {a : Act} {w : World}
  (h : K (a.put (some i) (a.eval (.tmp p))) w) : (Code.region id #[ao] false).wpIn (fe ro) 0 P (Exit.then K (fun _ _ _ => False)) a w := by
 refine wpIn_region_list ?_
 unfold wpListIn
 show if Region.wanted ao (yielded #[ao] a.tmps) = true then _ else _
 rw [if_pos (by simp [Region.wanted, hag])]
 refine ⟨fun _ _ => trivial, ?_⟩
 rw [Oper.semAt_eq _ _ _ (fun c hc => by rw [ha] at hc; cases hc)]
 simp only [execOp, ha, Sem.run_pure, Oper.uponIn_value, had]
 exact h
theorem rf_sound {P : Program} (hmix : P.follows .mixedOrders = true) {D : List Deferred} {L : List Nat} {n : Nat} {gO : Operand} {ga : A} {p i : Nat} {id : Nat} {ao : Oper} {body : Code} {sb : S} {g : Nat}
  (hg : trA L [] gO = some ga) (hp : L.contains p = true) (hi : L.contains i = true) (hin : i < n) (hpn : p < n) (ha : ao.op = .assign (.tmp p)) (had : ao.dst = some i) (hag : ao.guard = none) (hb : transB P L n body = some sb)
  {Q : Ex -> Fr -> Hp -> Prop} {f : Fr} {a : Act} {w : World} (hgn : L.contains g = false) (h : vc P (.rf g ga p i sb) Q f w.heap) (hr : Rel D L n a f) :
  (Code.rangeFunc gO #[p] (.region id #[ao] false) body).wpIn (fe none) 0 P (fun e a' w' => ∃ e' f', e = e'.to /\ Q e' f' w'.heap /\ Rel ({ target := .collected w.heap.size, args := #[] } :: D) L n a' f' /\ Same w w' /\ f' = upd f g (addM (f g) w.heap.size)) a w := by
 obtain ⟨gf, lb, xs, G, J, X, ⟨hv, hbo, hit⟩, hG, h0, ⟨hst, hsx⟩, hrd, hdone, hleft⟩ := h
 have hrE : RelE D L n [] [] a f := ⟨hr, fun t _ h => by simp at h⟩
 have hev : a.eval gO = .func (.func gf) #[] lb := (hrE.rd _ _ hg).trans hv
 refine wpIn_rangeFunc ?_
 intro fn _
 obtain ⟨rec, hrec⟩ : ∃ rec : LoopState -> Option Code -> Loop, rec = fun st pe => { state := st, pending := pe, fn, tmps := a.tmps, params := #[p], assign := .region id #[ao] false, body, defers := w.heap.size } := ⟨_, rfl⟩
 obtain ⟨W1, hW1⟩ : ∃ W1, (w.alloc (.deferred (some []))).alloc (.loop (rec .ready none)) = W1 := ⟨_, rfl⟩
 have hs1 : Same w W1 := by rw [<- hW1]; exact ⟨rfl, rfl, rfl⟩
 have hL1 : W1.heap[w.heap.size + 1]? = some (.loop (rec .ready none)) := by
  rw [<- hW1]; have := World.alloc_heap_new (w.alloc (.deferred (some []))) (.loop (rec .ready none)); rwa [World.size_alloc] at this
 have hJ1 : J 0 W1.heap := by
  refine h0 _ (by rw [<- hW1]; simp) (fun k hk => ?_) ?_
  ·rw [<- hW1]
   show ((w.heap.push _).push _)[k]? = _
   rw [Array.getElem?_push, if_neg (by simp; omega), Array.getElem?_push, if_neg (by omega)]
  ·rw [<- hW1]
   show ((w.heap.push _).push _)[w.heap.size]? = _
   rw [Array.getElem?_push, if_neg (by simp), Array.getElem?_push, if_pos rfl]
 refine ⟨w.heap.size + 1, [{ target := .collected w.heap.size, args := #[] }], W1, { target := .fn (.func gf) lb, args := #[.func (.yield (w.heap.size + 1)) #[] #[]] }, W1, gf,
  #[.func (.yield (w.heap.size + 1)) #[] #[]] ++ lb, W1, ?_, ?_, fun _ _ => trivial, ?_, fe_depth none, ?_⟩
 ·rw [<- hW1, hrec]; exact run_enterLoop_outer _ _ _ _ _
 ·simp only [resolve, hev]
  simp [go_sem]
 ·simp only [invoke, go_sem]
  exact call_run hbo
 ·refine (fe_calls (ro := none) (hit (w.heap.size + 1) (fun k H => J k H /\ H[w.heap.size + 1]? = some (.loop (rec .ready none)))
   (fun H => ∃ e : Ex, e ≠ .n /\ X e H /\ H[w.heap.size + 1]? = some (.loop (rec .done e.code))) ?_ (fun k H h => hG k H h.1) _ ⟨hJ1, hL1⟩ W1 rfl)).mono ?_
  ·-- one round
   rintro k H hk ⟨hj, hl⟩ W rfl
   generalize hx : xs.getD k undef = x
   have hlt : w.heap.size + 1 < W.heap.size := (Array.getElem?_eq_some_iff.1 hl).1
   have hy : (Instr.yield (w.heap.size + 1) #[x]).run P W = .ok (.round (w.heap.size + 1) fn (a.tmps.setIfInBounds p x) (.region id #[ao] false) body) W := by
    have := run_yield (P := P) (args := #[x]) hl (by rw [hrec]; rfl)
    rw [hrec] at this
    simpa using this
   refine ⟨fn, _, _, _, hy, ?_⟩
   refine roundIn_of_wpIn (F := Fence.wide) (n := 0) trivial ?_
   have hfe : Fence.wide.inRound (w.heap.size + 1) = fe (some (w.heap.size + 1)) := rfl
   rw [hfe]
   have hrp : Rel [] L n { tmps := a.tmps.setIfInBounds p x, defers := [] } (upd f p x) := by
    refine ⟨rfl, by simp [hr.s], fun t ht => ?_⟩
    simp only [upd]
    rw [getD_setIf _ _ (by rw [hr.s]; exact hpn)]
    split
    ·rfl
    ·exact hr.l t ht
   have hxe : (({ tmps := a.tmps.setIfInBounds p x, defers := [] } : Act).eval (.tmp p)) = x := by
    show (a.tmps.setIfInBounds p x).getD p undef = x
    rw [getD_setIf _ _ (by rw [hr.s]; exact hpn), if_pos rfl]
   refine asg_round ha had hag ?_
   rw [hxe]
   refine ⟨W.putObj (w.heap.size + 1) (.loop { rec .ready none with state := .busy }), run_beginRound hl (by rw [hrec]), ?_⟩
   have hl2 : (W.putObj (w.heap.size + 1) (.loop { rec .ready none with state := .busy })).heap[w.heap.size + 1]? = some (.loop { rec .ready none with state := .busy }) := World.putObj_heap_same hlt
   have hj2 := hst _ _ _ hj (OnlyL.put (w := W) (o := .loop { rec .ready none with state := .busy }))
   have hrd2 := hrd k _ hk hj2
   rw [hx] at hrd2
   generalize hW2 : W.putObj (w.heap.size + 1) (.loop { rec .ready none with state := .busy }) = W2 at hl2 hj2 hrd2 ⊢
   have hs2 : Same W W2 := by rw [<- hW2]; exact put_same _ _ _
   have hri : Rel [] L n (({ tmps := a.tmps.setIfInBounds p x, defers := [] } : Act).put (some i) x) (upd (upd f p x) i x) := by
    refine ⟨rfl, by simp [Act.put, hr.s], fun t ht => ?_⟩
    rw [getD_put _ _ (by rw [hrp.s]; exact hin)]
    simp only [upd]
    split
    ·rfl
    ·exact hrp.l t ht
   refine wpIn_mono (n := 0) (vc_soundB hmix (some (w.heap.size + 1)) body sb hb _ _ _ W2 hrd2 hri) ?_
   rintro e a3 W3 ⟨e', f3, rfl, ⟨hk3, hj3⟩, _, hs3⟩
   have hl3 : W3.heap[w.heap.size + 1]? = some (.loop { rec .ready none with state := .busy }) := hk3.trans hl2
   have fin : ∀ jump : Option Code, (Instr.endRound (w.heap.size + 1) jump).run P W3 = .ok (.bool jump.isNone) (W3.putObj (w.heap.size + 1) (.loop (rec (if jump.isNone then .ready else .done) jump))) ∧
     (W3.putObj (w.heap.size + 1) (.loop (rec (if jump.isNone then .ready else .done) jump))).heap[w.heap.size + 1]? = some (.loop (rec (if jump.isNone then .ready else .done) jump)) := fun jump => by
    have := run_endRound (P := P) jump hl3
    rw [hrec] at this ⊢
    exact ⟨this, World.putObj_heap_same (Array.getElem?_eq_some_iff.1 hl3).1⟩
   have hss : Same W W3 := hs2.trans hs3
   cases e' with
   | n =>
    obtain ⟨h1, h2⟩ := fin none
    exact ⟨_, _, h1, _, rfl, .inl ⟨rfl, hst _ _ _ hj3 OnlyL.put, h2⟩, hss.trans (put_same _ _ _)⟩
   | x id =>
    obtain ⟨h1, h2⟩ := fin (some (.exit id))
    exact ⟨_, _, h1, _, rfl, .inr ⟨rfl, .x id, by simp, hsx _ _ _ hj3 OnlyL.put, h2⟩, hss.trans (put_same _ _ _)⟩
   | r =>
    obtain ⟨h1, h2⟩ := fin (some .ret)
    exact ⟨_, _, h1, _, rfl, .inr ⟨rfl, .r, by simp, hsx _ _ _ hj3 OnlyL.put, h2⟩, hss.trans (put_same _ _ _)⟩
  ·rintro e W2 ⟨v, rfl, hs2, hJ⟩
   have hrel : Rel ({ target := .collected w.heap.size, args := #[] } :: D) L n { a with defers := [{ target := .collected w.heap.size, args := #[] }] ++ a.defers } (upd f g (addM (f g) w.heap.size)) := by
    refine ⟨by simp [hr.d], hr.s, fun t ht => ?_⟩
    have : t ≠ g := fun e => by subst e; rw [hgn] at ht; cases ht
    simp only [upd, if_neg this]
    exact hr.l t ht
   rcases hJ with ⟨hj, hl⟩ | ⟨e', hne, hx, hl⟩
   ·refine ⟨none, _, by have := run_endLoop (P := P) hl (by rw [hrec]; simp); rw [hrec] at this; exact this, ?_⟩
    exact ⟨.n, _, rfl, hdone _ (hst _ _ _ hj OnlyL.put), hrel, (hs1.trans hs2).trans (put_same _ _ _), rfl⟩
   ·refine ⟨e'.code, _, by have := run_endLoop (P := P) hl (by rw [hrec]; simp); rw [hrec] at this; exact this, ?_⟩
    have hq := fun o => hleft e' _ (hsx _ _ _ hx (OnlyL.put (w := W2) (o := o)))
    cases e' with
    | n => exact absurd rfl hne
    | x id => exact wpIn_exit ⟨.x id, _, rfl, hq _, hrel, (hs1.trans hs2).trans (put_same _ _ _), rfl⟩
    | r => exact wpIn_ret ⟨.r, _, rfl, hq _, hrel, (hs1.trans hs2).trans (put_same _ _ _), rfl⟩
end Go.Mg
namespace Go.Mg
open Go Go.RowKit
set_option linter.all false
def rfParts : Code -> Option (Oper × Nat × Nat)
 | .region _ ops false => match ops.toList with
  | [ao] => match ao.op, ao.dst, ao.guard with
   | .assign (.tmp p), some i, none => some (ao, p, i)
   | _, _, _ => none
  | _ => none
 | _ => none
def transR (P : Program) (L : List Nat) (n g : Nat) : Code -> Option S
 | .seq a b => (transR P L n g a).bind fun x => (transR P L n g b).map (.seq x ·)
 | .cond c a b => (trA L [] c).bind fun c => (transR P L n g a).bind fun x => (transR P L n g b).map (.ite c x ·)
 | .block id c => (transR P L n g c).map (.blk id ·)
 | .loop c => (transR P L n g c).map .loop
 | .rangeFunc gO ps asg body => match ps.toList with
  | [p] => (rfParts asg).bind fun q => if q.2.1 = p /\ q.2.2 < n /\ p < n /\ L.contains p = true /\ L.contains q.2.2 = true /\ L.contains g = false then
    (trA L [] gO).bind fun ga => (transB P L n body).map fun sb => .rf g ga p q.2.2 sb
   else none
  | _ => none
 | .skip => some .skip
 | .exit id => some (.exit id)
 | .ret => some .ret
 | c => (trans P L n c).bind fun s => if s.wr.contains g then none else some s
def liftR (L : List Nat) (n g : Nat) (w0 : World) (Q : Ex -> Fr -> Hp -> Prop) : Exit -> Act -> World -> Prop := fun e a w => ∃ e' f, e = e'.to /\ Q e' f w.heap /\ Rel (mkD (f g)) L n a f /\ Same w0 w
theorem liftR_mono {L : List Nat} {n g : Nat} {w0 w1 : World} {Q : Ex -> Fr -> Hp -> Prop} (hs : Same w0 w1) {e : Exit} {a : Act} {w : World} (h : liftR L n g w1 Q e a w) : liftR L n g w0 Q e a w :=
 let ⟨e', f, h1, h2, h3, h4⟩ := h; ⟨e', f, h1, h2, h3, hs.trans h4⟩
theorem rfParts_spec {c : Code} {q : Oper × Nat × Nat} (h : rfParts c = some q) : ∃ id, c = .region id #[q.1] false /\ q.1.op = .assign (.tmp q.2.1) /\ q.1.dst = some q.2.2 /\ q.1.guard = none := by
 unfold rfParts at h
 split at h
 case h_2 => cases h
 rename_i id ops
 split at h
 case h_2 => cases h
 rename_i ao hao
 split at h
 case h_2 => cases h
 rename_i p i h1 h2 h3
 cases h
 refine ⟨id, ?_, h1, h2, h3⟩
 congr 1
 apply Array.ext'
 exact hao
theorem vc_soundR {P : Program} (hmix : P.follows .mixedOrders = true) {L : List Nat} {n g : Nat} : ∀ (c : Code) (s : S), transR P L n g c = some s -> ∀ (Q : Ex -> Fr -> Hp -> Prop) (f : Fr) (a : Act) (w : World), vc P s Q f w.heap -> Rel (mkD (f g)) L n a f →
  c.wp P (liftR L n g w Q) a w := by
 have leaf : ∀ (c : Code) (s : S), ((trans P L n c).bind fun s => if s.wr.contains g then none else some s) = some s -> ∀ (Q : Ex -> Fr -> Hp -> Prop) (f : Fr) (a : Act) (w : World), vc P s Q f w.heap -> Rel (mkD (f g)) L n a f →
   c.wp P (liftR L n g w Q) a w := by
  intro c s hs Q f a w h hr
  obtain ⟨s', ht, hs⟩ := Option.bind_eq_some_iff.1 hs
  split at hs
  case isTrue => cases hs
  rename_i hn
  cases hs
  have h2 := vc_keep s f w.heap Q (fun e f' H' => Q e f' H' /\ f' g = f g) (fun e f' H' q k => ⟨q, k g (by simpa using hn)⟩) h
  refine wp_mono (vc_sound hmix c s ht _ f a w h2 hr) ?_
  rintro e a' w' ⟨e', f', rfl, ⟨hq, hg⟩, hr', hs'⟩
  exact ⟨e', f', rfl, hq, by rw [hg]; exact hr', hs'⟩
 intro c
 induction c with
 | skip =>
  intro s hs Q f a w h hr
  cases hs
  exact wp_skip ⟨.n, f, rfl, h, hr, Same.refl w⟩
 | exit id =>
  intro s hs Q f a w h hr
  cases hs
  exact wp_exit ⟨.x id, f, rfl, h, hr, Same.refl w⟩
 | ret =>
  intro s hs Q f a w h hr
  cases hs
  exact wp_ret ⟨.r, f, rfl, h, hr, Same.refl w⟩
 | seq x y ihx ihy =>
  intro s hs Q f a w h hr
  simp only [transR] at hs
  obtain ⟨sx, hx, hs⟩ := Option.bind_eq_some_iff.1 hs
  obtain ⟨sy, hy, rfl⟩ := Option.map_eq_some_iff.1 hs
  refine wp_seq (wp_mono (ihx sx hx _ f a w h hr) ?_)
  rintro e a' w' ⟨e', f', rfl, hq, hr', hs'⟩
  cases e' with
  | n => exact wp_mono (ihy sy hy _ f' a' w' hq hr') fun _ _ _ h => liftR_mono hs' h
  | x id => exact ⟨.x id, f', rfl, hq, hr', hs'⟩
  | r => exact ⟨.r, f', rfl, hq, hr', hs'⟩
 | cond c x y ihx ihy =>
  intro s hs Q f a w h hr
  simp only [transR] at hs
  obtain ⟨c', hc, hs⟩ := Option.bind_eq_some_iff.1 hs
  obtain ⟨sx, hx, hs⟩ := Option.bind_eq_some_iff.1 hs
  obtain ⟨sy, hy, rfl⟩ := Option.map_eq_some_iff.1 hs
  have hrE : RelE (mkD (f g)) L n [] [] a f := ⟨hr, fun t _ h => by simp at h⟩
  obtain ⟨hb, h1, h2⟩ := h
  have he := (hrE.rd _ _ hc).trans (isB_spec hb)
  exact wp_cond_split he (fun ht => ihx sx hx _ f a w (h1 ht) hr) (fun ht => ihy sy hy _ f a w (h2 ht) hr)
 | block id c ih =>
  intro s hs Q f a w h hr
  simp only [transR] at hs
  obtain ⟨sx, hx, rfl⟩ := Option.map_eq_some_iff.1 hs
  refine wp_block (wp_mono (ih sx hx _ f a w h hr) ?_)
  rintro e a' w' ⟨e', f', rfl, hq, hr', hs'⟩
  cases e' with
  | n => exact ⟨.n, f', rfl, hq, hr', hs'⟩
  | x i =>
   simp only [blkQ] at hq
   simp only [Ex.to, Exit.inBlock]
   split
   ·rename_i hi; rw [if_pos hi] at hq; exact ⟨.n, f', rfl, hq, hr', hs'⟩
   ·rename_i hi; rw [if_neg hi] at hq; exact ⟨.x i, f', rfl, hq, hr', hs'⟩
  | r => exact ⟨.r, f', rfl, hq, hr', hs'⟩
 | loop c ih =>
  intro s hs Q f a w h hr
  simp only [transR] at hs
  obtain ⟨sx, hx, rfl⟩ := Option.map_eq_some_iff.1 hs
  obtain ⟨I, ⟨m, h0⟩, hround⟩ := h
  refine wp_loop_ghost (fun k a' w' => ∃ f', I k f' w'.heap /\ Rel (mkD (f' g)) L n a' f' /\ Same w w') m ⟨f, h0, hr, Same.refl w⟩ ?_
  rintro k a1 w1 ⟨f1, hI, hr1, hs1⟩
  refine wp_mono (ih sx hx _ f1 a1 w1 (hround k f1 w1.heap hI) hr1) ?_
  rintro e a' w' ⟨e', f', rfl, hq, hr', hs'⟩
  cases e' with
  | n =>
   obtain ⟨m', hm, hI'⟩ := hq
   exact ⟨m', hm, f', hI', hr', hs1.trans hs'⟩
  | x i => exact ⟨.x i, f', rfl, hq, hr', hs1.trans hs'⟩
  | r => exact ⟨.r, f', rfl, hq, hr', hs1.trans hs'⟩
 | rangeFunc gO ps asg body iha ihb =>
  intro s hs Q f a w h hr
  simp only [transR] at hs
  split at hs
  case h_2 => cases hs
  rename_i p hps
  obtain ⟨q, hq, hs⟩ := Option.bind_eq_some_iff.1 hs
  split at hs
  case isFalse => cases hs
  rename_i hc
  obtain ⟨rfl, h1, h2, h3, h4, h5⟩ := hc
  obtain ⟨ga, hga, hs⟩ := Option.bind_eq_some_iff.1 hs
  obtain ⟨sb, hsb, rfl⟩ := Option.map_eq_some_iff.1 hs
  obtain ⟨id, rfl, g1, g2, g3⟩ := rfParts_spec hq
  have hpe : ps = #[q.2.1] := by apply Array.ext'; exact hps
  subst hpe
  refine wp_mono (wpIn_wide.1 (rf_sound (n := n) (Q := Q) (f := f) hmix hga h3 h4 h1 h2 g1 g2 g3 hsb h5 h hr)) ?_
  rintro e a' w' ⟨e', f', rfl, hq', hr', hs', rfl⟩
  refine ⟨e', _, rfl, hq', ?_, hs'⟩
  have : mkD (upd f g (addM (f g) w.heap.size) g) = { target := .collected w.heap.size, args := #[] } :: mkD (f g) := by
   simp only [upd, if_true, mkD_addM]
  rw [this]; exact hr'
 | region id ops draw => exact leaf _
 | _ => intro s hs; simp [transR, trans] at hs
def retQR (g : Nat) (rs : List RV) (R : Value -> Hp -> Prop) : Ex -> Fr -> Hp -> Prop
 | .x _, _, _ => False
 | _, f, H => (mks (f g)).Nodup /\ (∀ m ∈ mks (f g), H[m]? = some (.deferred (some []))) ∧
  ∀ H' : Hp, H'.size = H.size -> (∀ k, k ∉ mks (f g) -> H'[k]? = H[k]?) -> resPre f H' rs /\ R (resVal f H' rs) H'
def codeOfR (P : Program) (fn : Func) : Option (S × List RV) :=
 fn.body.bind fun c => (transR P (liveF fn) fn.ntmps fn.ntmps c).bind fun s => (fn.results.toList.mapM (trR P (liveF fn))).map fun rs => (s, rs)
structure FnIsR (P : Program) (k : FuncId) (s : S) (rs : List RV) (np g : Nat) : Prop where
 ok : ∃ fn c L, P.funcs[k]? = some fn /\ fn.body = some c /\ transR P L fn.ntmps g c = some s /\ fn.results.toList.mapM (trR P L) = some rs /\ np <= fn.ntmps /\ g = fn.ntmps
 mix : P.follows .mixedOrders = true
 body : bodyOk P k = true
theorem FnIsR.mk' {P : Program} {k : FuncId} {fn : Func} {s : S} {rs : List RV} {np g : Nat} (hf : P.funcs[k]? = some fn) (hm : P.follows .mixedOrders = true) (hc : codeOfR P fn = some (s, rs)) (hn : (decide (np <= fn.ntmps) && decide (g = fn.ntmps)) = true)
  (hb : (fn.name == "runtime.NumGoroutine") = false) : FnIsR P k s rs np g := by
 unfold codeOfR at hc
 obtain ⟨c, h1, hc⟩ := Option.bind_eq_some_iff.1 hc
 obtain ⟨s', h2, hc⟩ := Option.bind_eq_some_iff.1 hc
 obtain ⟨rs', h3, hc⟩ := Option.map_eq_some_iff.1 hc
 cases hc
 simp only [Bool.and_eq_true, decide_eq_true_eq] at hn
 obtain ⟨hn, rfl⟩ := hn
 refine ⟨⟨fn, c, _, hf, h1, h2, h3, hn, rfl⟩, hm, ?_⟩
 simp [bodyOk, hf, h1, hb]
theorem results_run {P : Program} {L : List Nat} {D : List Deferred} {fn : Func} {rs : List RV} {a' : Act} {f' : Fr} {w' : World} (hr' : Rel D L fn.ntmps a' f') (hres : fn.results.toList.mapM (trR P L) = some rs) (h1 : resPre f' w'.heap rs) :
  (results fn a'.tmps).run P w' = .ok (resVal f' w'.heap rs) w' := by
 have hrun := res_run (P := P) hr' (w := w') hres h1
 rw [results_rvS, Array.mapM_eq_mapM_toList]
 simp only [bind_pure_comp, Functor.map_map, Sem.run_map]
 rw [hrun]
 simp only [Result.andThen]
 congr 1
 cases rs with
 | nil => rfl
 | cons r l => cases l with
  | nil => rfl
  | cons r2 l => simp [resVal]
theorem leaves_marks {P : Program} {fn : Func} {tmps : Array Value} {R : Ending -> World -> Prop} : ∀ (ms : List Nat) (w : World), ms.Nodup -> (∀ m ∈ ms, w.heap[m]? = some (.deferred (some []))) →
  (∀ w' : World, w'.heap.size = w.heap.size -> (∀ k, k ∉ ms -> w'.heap[k]? = w.heap[k]?) -> Same w w' -> LeavesIn Fence.wide 0 P fn tmps R [] .returning w') →
  LeavesInM Fence.wide 0 P fn tmps R (ms.map fun m => { target := .collected m, args := #[] }) .returning w
 | [], w, _, _, h => h w rfl (fun _ _ => rfl) (Same.refl w)
 | m :: ms, w, hn, hm, h => by
  rw [List.nodup_cons] at hn
  refine ⟨by simp, .inl ⟨m, w.putObj m (.deferred none), rfl, run_takeDeferred (hm m (by simp)), ?_⟩⟩
  refine leaves_marks ms _ hn.2 (fun x hx => ?_) (fun w' h1 h2 h3 => ?_)
  ·rw [World.putObj_heap_other (by rintro rfl; exact hn.1 hx)]; exact hm x (by simp [hx])
  ·refine h w' (by rw [h1]; exact World.putObj_size) (fun k hk => ?_) ((put_same _ _ _).trans h3)
   simp only [List.mem_cons, not_or] at hk
   rw [h2 k hk.2, World.putObj_heap_other hk.1]
theorem calls_of_vcR {P : Program} {k : FuncId} {s : S} {rs : List RV} {np g : Nat} (hk : FnIsR P k s rs np g) {args : List Value} (ha : args.length <= np) {H : Hp} {R : Value -> Hp -> Prop}
  (h : vc P s (retQR g rs R) (look (enumA 0 args)) H) : CallsM P k args.toArray H R := by
 obtain ⟨⟨fn, c, L, hf, hb, ht, hres, hn, hg⟩, hmix, _⟩ := hk
 intro w hw
 have look0 : ∀ t, look (enumA 0 args) t = args.getD t undef := fun t => by have := look_enumA args 0 t; rwa [Nat.zero_add] at this
 have hm0 : mkD (look (enumA 0 args) g) = [] := by
  rw [look0, List.getD_eq_getElem?_getD, List.getElem?_eq_none (by omega)]; rfl
 have hr : Rel (mkD (look (enumA 0 args) g)) L fn.ntmps { tmps := args.toArray ++ Array.replicate (fn.ntmps - args.toArray.size) undef, defers := [] } (look (enumA 0 args)) := by
  rw [hm0]
  refine ⟨rfl, by simp; omega, fun t _ => ?_⟩
  rw [look0, Array.getD_eq_getD_getElem?, List.getD_eq_getElem?_getD]
  by_cases ht : t < args.length
  ·simp [Array.getElem?_append, ht]
  ·rw [Array.getElem?_append, if_neg (by simpa using ht), List.getElem?_eq_none (by omega)]
   simp only [Array.getElem?_replicate]
   split <;> rfl
 refine callsIn_wide.1 (callsIn_of_wp_marks (n := 0) hf hb trivial ?_)
 refine wpIn_wide.2 (wp_mono (vc_soundR hmix c s ht _ _ _ w (hw ▸ h) hr) ?_)
 rintro e a' w' ⟨e', f', rfl, hq, hr', hs'⟩
 have fin : retQR g rs R .r f' w'.heap -> LeavesInM Fence.wide 0 P fn a'.tmps (fun e w' => ∃ v, e = .returned v /\ R v w'.heap /\ Same w w') a'.defers .returning w' := by
  rintro ⟨h1, h2, h3⟩
  rw [hr'.d]
  refine leaves_marks _ _ h1 h2 fun w2 g1 g2 g3 => ?_
  obtain ⟨h4, h5⟩ := h3 w2.heap g1 g2
  exact ⟨_, results_run (w' := w2) hr' hres h4, _, rfl, h5, hs'.trans g3⟩
 cases e' with
 | n => exact fin hq
 | r => exact fin hq
 | x i => exact hq.elim
end Go.Mg
namespace Go.Mg
open Go Go.RowKit
set_option linter.all false
def exY (P : Program) (tr : Operand -> Option A) (o : Oper) : Option EX :=
 match o.op with
 | .call c => match c.callee with
  | .value (.tmp t) => (tr (.tmp t)).bind fun g => (trAs tr c.args.toList).map (.cally g)
  | _ => ex P tr o
 | _ => ex P tr o
def trOpsY (P : Program) (L : List Nat) (n : Nat) : List Oper -> List Nat -> Option (List O)
 | [], _ => some []
 | o :: r, e =>
  (trD L n o.dst).bind fun d =>
  if o.guard.isNone && noDef o then
   match px P (trA L e) o with
   | some x => (trOpsY P L n r (d.more e)).map (.p d x :: ·)
   | none => (exY P (trA L e) o).bind fun x => (trOpsY P L n r (d.more e)).map (.e d x :: ·)
  else none
def transY (P : Program) (L : List Nat) (n : Nat) : Code -> Option S
 | .skip => some .skip
 | .region _ ops draw => if draw then none else (trOpsY P L n ops.toList []).map .reg
 | .seq a b => (transY P L n a).bind fun x => (transY P L n b).map (.seq x ·)
 | .cond c a b => (trA L [] c).bind fun c => (transY P L n a).bind fun x => (transY P L n b).map (.ite c x ·)
 | .block id c => (transY P L n c).map (.blk id ·)
 | .loop c => (transY P L n c).map .loop
 | .exit id => some (.exit id)
 | .ret => some .ret
 | _ => none
theorem exY_sound {P : Program} {o : Oper} {a : Act} {w : World} {tr : Operand -> Option A} {r : A -> Value} {x : EX} (hnd : noDef o = true) (hx : exY P tr o = some x) (htr : ∀ y z, tr y = some z -> a.eval y = r z)
  {K : Value -> Hp -> Prop} (h : x.wp P r w.heap K) {next : Act -> World -> Prop} {Q : Exit -> Act -> World -> Prop} (hn : ∀ v w', K v w'.heap -> Same w w' -> next (a.put o.dst v) w') : o.wpIn (fe none) 0 P a w next Q := by
 have plain : ex P tr o = some x -> o.wpIn (fe none) 0 P a w next Q := fun hx => wp_lift none hnd (ex_sound hx htr h next Q hn)
 unfold exY at hx
 split at hx
 case h_2 => exact plain hx
 rename_i c hop
 split at hx
 case h_2 => exact plain hx
 rename_i t hc
 obtain ⟨g, hg, hx⟩ := Option.bind_eq_some_iff.1 hx
 obtain ⟨as, has, rfl⟩ := Option.map_eq_some_iff.1 hx
 obtain ⟨l, hv, hy⟩ := h
 obtain ⟨fn, tmps, asg, body, h1, h2⟩ := hy w rfl
 refine ⟨fun _ _ => trivial, ?_⟩
 rw [Oper.semAt_eq _ _ _ (noDef_spec hnd)]
 have hargs : c.args.map a.eval = (as.map r).toArray := by
  apply Array.ext'
  rw [Array.toList_map]
  exact trAs_map htr has
 have hev : a.eval (.tmp t) = .func (.yield l) #[] #[] := (htr _ _ hg).trans hv
 have hrun : (execOp a.eval o).run P w = .ok (.round l fn tmps asg body) w := by
  simp only [execOp, hop, resolve, hc, hev, hargs]
  simp only [go_sem, Deferred.ofValue, Sem.run_bind, Sem.run_pure, Result.andThen, invoke]
  simpa using h1
 rw [hrun]
 refine ⟨fe_depth none, h2.mono ?_⟩
 rintro e w' ⟨v, rfl, hk, hs⟩
 exact hn _ _ hk hs
theorem opsY_sound {P : Program} {D : List Deferred} {L : List Nat} {n : Nat} {all : Array Oper} {w0 : World} {Q : Fr -> Hp -> Prop} {Q' : Exit -> Act -> World -> Prop}
  (hQ : ∀ f a w, Q f w.heap -> Rel D L n a f -> Same w0 w -> Q' .normal a w) :
  ∀ (l : List Oper) (ks : List Nat) (l' : List O) (e : Env) (f : Fr) (a : Act) (w : World), trOpsY P L n l ks = some l' -> RelE D L n ks e a f -> Same w0 w -> ops P l' e f w.heap Q -> wpListIn (fe none) 0 P all Q' l a w := by
 intro l
 induction l with
 | nil =>
  intro ks l' e f a w hl hr hs h
  cases hl
  exact hQ f a w h hr.toRel hs
 | cons o l ih =>
  intro ks l' e f a w hl hr hs h
  simp only [trOpsY] at hl
  obtain ⟨d, hd, hl⟩ := Option.bind_eq_some_iff.1 hl
  split at hl
  case isFalse => cases hl
  rename_i hg
  simp only [Bool.and_eq_true, Option.isNone_iff_eq_none] at hg
  unfold wpListIn
  rw [if_pos (by simp [Region.wanted, hg.1])]
  split at hl
  ·rename_i x hx
   obtain ⟨l2, hl2, rfl⟩ := Option.map_eq_some_iff.1 hl
   obtain ⟨hp, h⟩ := h
   refine wp_lift none hg.2 ?_
   unfold Oper.wp
   rw [px_sound hx hr.rd (fun _ => rfl) hp, Oper.upon_value]
   exact ih _ _ _ _ _ _ hl2 (hr.put hd _) hs h
  ·obtain ⟨x, hx, hl⟩ := Option.bind_eq_some_iff.1 hl
   obtain ⟨l2, hl2, rfl⟩ := Option.map_eq_some_iff.1 hl
   exact exY_sound hg.2 hx hr.rd h fun v w' hk hw => ih _ _ _ _ _ _ hl2 (hr.put hd _) (hs.trans hw) hk
theorem vc_soundY {P : Program} {D : List Deferred} {L : List Nat} {n : Nat} : ∀ (c : Code) (s : S), transY P L n c = some s -> ∀ (Q : Ex -> Fr -> Hp -> Prop) (f : Fr) (a : Act) (w : World), vc P s Q f w.heap -> Rel D L n a f →
  c.wp P (liftQ D L n w Q) a w := by
 intro c
 induction c with
 | skip =>
  intro s hs Q f a w h hr
  cases hs
  exact wp_skip ⟨.n, f, rfl, h, hr, Same.refl w⟩
 | exit id =>
  intro s hs Q f a w h hr
  cases hs
  exact wp_exit ⟨.x id, f, rfl, h, hr, Same.refl w⟩
 | ret =>
  intro s hs Q f a w h hr
  cases hs
  exact wp_ret ⟨.r, f, rfl, h, hr, Same.refl w⟩
 | region id all draw =>
  intro s hs Q f a w h hr
  simp only [transY] at hs
  have hrE : RelE D L n [] [] a f := ⟨hr, fun t _ h => by simp at h⟩
  cases draw with
  | true => simp at hs
  | false =>
   simp only [Bool.false_eq_true, if_false] at hs
   obtain ⟨l, hl, rfl⟩ := Option.map_eq_some_iff.1 hs
   refine (wpIn_wide (n := 0)).1 (wpIn_region_list ?_)
   exact opsY_sound (w0 := w) (Q := Q .n) (fun f' a' w' hq hr' hs' => ⟨.n, f', rfl, hq, hr', hs'⟩) _ _ _ _ _ _ _ hl hrE (Same.refl w) h
 | seq x y ihx ihy =>
  intro s hs Q f a w h hr
  simp only [transY] at hs
  obtain ⟨sx, hx, hs⟩ := Option.bind_eq_some_iff.1 hs
  obtain ⟨sy, hy, rfl⟩ := Option.map_eq_some_iff.1 hs
  refine wp_seq (wp_mono (ihx sx hx _ f a w h hr) ?_)
  rintro e a' w' ⟨e', f', rfl, hq, hr', hs'⟩
  cases e' with
  | n => exact wp_mono (ihy sy hy _ f' a' w' hq hr') fun _ _ _ h => liftQ_mono hs' h
  | x id => exact ⟨.x id, f', rfl, hq, hr', hs'⟩
  | r => exact ⟨.r, f', rfl, hq, hr', hs'⟩
 | cond c x y ihx ihy =>
  intro s hs Q f a w h hr
  simp only [transY] at hs
  obtain ⟨c', hc, hs⟩ := Option.bind_eq_some_iff.1 hs
  obtain ⟨sx, hx, hs⟩ := Option.bind_eq_some_iff.1 hs
  obtain ⟨sy, hy, rfl⟩ := Option.map_eq_some_iff.1 hs
  have hrE : RelE D L n [] [] a f := ⟨hr, fun t _ h => by simp at h⟩
  obtain ⟨hb, h1, h2⟩ := h
  have he := (hrE.rd _ _ hc).trans (isB_spec hb)
  exact wp_cond_split he (fun ht => ihx sx hx _ f a w (h1 ht) hr) (fun ht => ihy sy hy _ f a w (h2 ht) hr)
 | block id c ih =>
  intro s hs Q f a w h hr
  simp only [transY] at hs
  obtain ⟨sx, hx, rfl⟩ := Option.map_eq_some_iff.1 hs
  refine wp_block (wp_mono (ih sx hx _ f a w h hr) ?_)
  rintro e a' w' ⟨e', f', rfl, hq, hr', hs'⟩
  cases e' with
  | n => exact ⟨.n, f', rfl, hq, hr', hs'⟩
  | x i =>
   simp only [blkQ] at hq
   simp only [Ex.to, Exit.inBlock]
   split
   ·rename_i hi; rw [if_pos hi] at hq; exact ⟨.n, f', rfl, hq, hr', hs'⟩
   ·rename_i hi; rw [if_neg hi] at hq; exact ⟨.x i, f', rfl, hq, hr', hs'⟩
  | r => exact ⟨.r, f', rfl, hq, hr', hs'⟩
 | loop c ih =>
  intro s hs Q f a w h hr
  simp only [transY] at hs
  obtain ⟨sx, hx, rfl⟩ := Option.map_eq_some_iff.1 hs
  obtain ⟨I, ⟨m, h0⟩, hround⟩ := h
  refine wp_loop_ghost (fun k a' w' => ∃ f', I k f' w'.heap /\ Rel D L n a' f' /\ Same w w') m ⟨f, h0, hr, Same.refl w⟩ ?_
  rintro k a1 w1 ⟨f1, hI, hr1, hs1⟩
  refine wp_mono (ih sx hx _ f1 a1 w1 (hround k f1 w1.heap hI) hr1) ?_
  rintro e a' w' ⟨e', f', rfl, hq, hr', hs'⟩
  cases e' with
  | n =>
   obtain ⟨m', hm, hI'⟩ := hq
   exact ⟨m', hm, f', hI', hr', hs1.trans hs'⟩
  | x i => exact ⟨.x i, f', rfl, hq, hr', hs1.trans hs'⟩
  | r => exact ⟨.r, f', rfl, hq, hr', hs1.trans hs'⟩
 | _ => intro s hs; cases hs
def codeOfY (P : Program) (fn : Func) : Option (S × List RV) :=
 fn.body.bind fun c => (transY P (liveF fn) fn.ntmps c).bind fun s => (fn.results.toList.mapM (trR P (liveF fn))).map fun rs => (s, rs)
structure FnIsY (P : Program) (k : FuncId) (s : S) (rs : List RV) (np : Nat) : Prop where
 ok : ∃ fn c L, P.funcs[k]? = some fn /\ fn.body = some c /\ transY P L fn.ntmps c = some s /\ fn.results.toList.mapM (trR P L) = some rs /\ np <= fn.ntmps
 body : bodyOk P k = true
theorem FnIsY.mk' {P : Program} {k : FuncId} {fn : Func} {s : S} {rs : List RV} {np : Nat} (hf : P.funcs[k]? = some fn) (hc : codeOfY P fn = some (s, rs)) (hn : decide (np <= fn.ntmps) = true)
  (hb : (fn.name == "runtime.NumGoroutine") = false) : FnIsY P k s rs np := by
 unfold codeOfY at hc
 obtain ⟨c, h1, hc⟩ := Option.bind_eq_some_iff.1 hc
 obtain ⟨s', h2, hc⟩ := Option.bind_eq_some_iff.1 hc
 obtain ⟨rs', h3, hc⟩ := Option.map_eq_some_iff.1 hc
 cases hc
 refine ⟨⟨fn, c, _, hf, h1, h2, h3, of_decide_eq_true hn⟩, ?_⟩
 simp [bodyOk, hf, h1, hb]
theorem calls_of_vcY {P : Program} {k : FuncId} {s : S} {rs : List RV} {np : Nat} (hk : FnIsY P k s rs np) {args : List Value} (ha : args.length <= np) {H : Hp} {R : Value -> Hp -> Prop}
  (h : vc P s (retQ rs R) (look (enumA 0 args)) H) : CallsM P k args.toArray H R := by
 obtain ⟨⟨fn, c, L, hf, hb, ht, hres, hn⟩, _⟩ := hk
 intro w hw
 refine calls_of_wp hf hb ?_
 have look0 : ∀ t, look (enumA 0 args) t = args.getD t undef := fun t => by have := look_enumA args 0 t; rwa [Nat.zero_add] at this
 have hr : Rel [] L fn.ntmps { tmps := args.toArray ++ Array.replicate (fn.ntmps - args.toArray.size) undef, defers := [] } (look (enumA 0 args)) := by
  refine ⟨rfl, by simp; omega, fun t _ => ?_⟩
  rw [look0, Array.getD_eq_getD_getElem?, List.getD_eq_getElem?_getD]
  by_cases ht : t < args.length
  ·simp [Array.getElem?_append, ht]
  ·rw [Array.getElem?_append, if_neg (by simpa using ht), List.getElem?_eq_none (by omega)]
   simp only [Array.getElem?_replicate]
   split <;> rfl
 refine wp_mono (vc_soundY c s ht _ _ _ w (hw ▸ h) hr) ?_
 rintro e a' w' ⟨e', f', rfl, hq, hr', hs'⟩
 have fin : retQ rs R .r f' w'.heap -> ∃ v, (results fn a'.tmps).run P w' = .ok v w' /\ ∃ v', Ending.returned v = .returned v' /\ R v' w'.heap /\ Same w w' := by
  rintro ⟨h1, h2⟩
  exact ⟨_, results_run hr' hres h1, _, rfl, h2, hs'⟩
 cases e' with
 | n => obtain ⟨v, g1, v', g2, g3, g4⟩ := fin hq; exact ⟨hr'.d, v, g1, v', g2, g3, g4⟩
 | r => obtain ⟨v, g1, v', g2, g3, g4⟩ := fin hq; exact ⟨hr'.d, v, g1, v', g2, g3, g4⟩
 | x i => exact hq.elim
end Go.Mg
namespace Go.Mg
open Go Go.RowKit
set_option linter.all false
theorem OnlyL.keepW {l : Nat} {H H' : Hp} (h : OnlyL l H H') {A : Hp} {W : Nat -> Prop} (k : Keep W A H) (hl : A.size <= l) : Keep W A H' :=
 k.trans' h.keep (fun i hi e => by omega)
theorem vc_rf {P : Program} {g : Nat} {a : A} {p i : Nat} {body : S} {Q : Ex -> Fr -> Hp -> Prop} {f : Fr} {H : Hp} {gf : FuncId} {lb : Array Value} {xs : List Value} {G : Hp -> Prop} (W : Nat -> Prop) (I : Nat -> Hp -> Prop) (X : Ex -> Hp -> Prop)
  (hv : a.rd [] f = .func (.func gf) #[] lb) (hb : bodyOk P gf = true) (hit : IterC P gf lb xs G) (hW : ∀ k, W k -> k < H.size)
  (hG : ∀ k H', Keep W H H' -> I k H' -> G H')
  (h0 : ∀ H0, Keep (fun _ => False) H H0 -> H.size + 2 <= H0.size -> I 0 H0)
  (hst : ∀ k H1 H2, H.size + 2 <= H1.size -> Keep W H H1 -> I k H1 -> Keep (fun b => b = H.size + 1) H1 H2 -> I k H2)
  (hsx : ∀ e H1 H2, H.size + 2 <= H1.size -> Keep W H H1 -> X e H1 -> Keep (fun b => b = H.size + 1) H1 H2 -> X e H2)
  (hr : ∀ k H1, k < xs.length -> Keep W H H1 -> H.size + 2 <= H1.size -> I k H1 -> vc P body (fun e _ H2 => Keep (fun b => W b \/ H.size + 2 <= b) H1 H2 /\ match e with | .n => I (k + 1) H2 | e => X e H2) (upd (upd f p (xs.getD k undef)) i (xs.getD k undef)) H1)
  (hdone : ∀ H1, Keep W H H1 -> H.size + 2 <= H1.size -> H1[H.size]? = some (.deferred (some [])) -> I xs.length H1 -> Q .n (upd f g (addM (f g) H.size)) H1)
  (hleft : ∀ e H1, Keep W H H1 -> H.size + 2 <= H1.size -> H1[H.size]? = some (.deferred (some [])) -> X e H1 -> Q e (upd f g (addM (f g) H.size)) H1) : vc P (.rf g a p i body) Q f H := by
 refine ⟨gf, lb, xs, G, fun k H' => Keep W H H' /\ H.size + 2 <= H'.size /\ H'[H.size]? = some (.deferred (some [])) /\ I k H', fun e H' => Keep W H H' /\ H.size + 2 <= H'.size /\ H'[H.size]? = some (.deferred (some [])) /\ X e H', ⟨hv, hb, hit⟩, ?_, ?_, ⟨?_, ?_⟩, ?_, ?_, ?_⟩
 ·rintro k H' ⟨h1, _, _, h4⟩; exact hG k H' h1 h4
 ·intro H0 hs hk hd
  have K : Keep (fun _ => False) H H0 := ⟨by omega, fun k h _ => hk k h⟩
  exact ⟨K.any, by omega, hd, h0 H0 K (by omega)⟩
 ·rintro k H1 H2 ⟨h1, h2, h3, h4⟩ ho
  exact ⟨ho.keepW h1 (by omega), by rw [ho.1]; exact h2, by rw [ho.2 _ (by omega)]; exact h3, hst k H1 H2 h2 h1 h4 ho.keep⟩
 ·rintro e H1 H2 ⟨h1, h2, h3, h4⟩ ho
  exact ⟨ho.keepW h1 (by omega), by rw [ho.1]; exact h2, by rw [ho.2 _ (by omega)]; exact h3, hsx e H1 H2 h2 h1 h4 ho.keep⟩
 ·rintro k H1 hk ⟨h1, h2, h3, h4⟩
  refine vc_mono ?_ (hr k H1 hk h1 h2 h4)
  rintro e f' H2 ⟨K, hq⟩
  have hl : ¬ (W (H.size + 1) \/ H.size + 2 <= H.size + 1) := by
   rintro (h | h)
   ·have := hW _ h; omega
   ·omega
  have hd : ¬ (W H.size \/ H.size + 2 <= H.size) := by
   rintro (h | h)
   ·have := hW _ h; omega
   ·omega
  have KW : Keep W H H2 := h1.trans' K (fun i hi h => h.resolve_right (by omega))
  have hs : H.size + 2 <= H2.size := Nat.le_trans h2 K.size
  have hd2 : H2[H.size]? = some (.deferred (some [])) := by rw [K.at_ _ (by omega) hd]; exact h3
  refine ⟨K.at_ _ (by omega) hl, ?_⟩
  cases e with
  | n => exact ⟨KW, hs, hd2, hq⟩
  | x id => exact ⟨KW, hs, hd2, hq⟩
  | r => exact ⟨KW, hs, hd2, hq⟩
 ·rintro H1 ⟨h1, h2, h3, h4⟩; exact hdone H1 h1 h2 h3 h4
 ·rintro e H1 ⟨h1, h2, h3, h4⟩; exact hleft e H1 h1 h2 h3 h4
@[go_sem] theorem retQR_n (g : Nat) (rs : List RV) (R) (f : Fr) (H : Hp) : retQR g rs R .n f H = ((mks (f g)).Nodup /\ (∀ m ∈ mks (f g), H[m]? = some (.deferred (some []))) ∧
  ∀ H' : Hp, H'.size = H.size -> (∀ k, k ∉ mks (f g) -> H'[k]? = H[k]?) -> resPre f H' rs /\ R (resVal f H' rs) H') := rfl
@[go_sem] theorem retQR_r (g : Nat) (rs : List RV) (R) (f : Fr) (H : Hp) : retQR g rs R .r f H = ((mks (f g)).Nodup /\ (∀ m ∈ mks (f g), H[m]? = some (.deferred (some []))) ∧
  ∀ H' : Hp, H'.size = H.size -> (∀ k, k ∉ mks (f g) -> H'[k]? = H[k]?) -> resPre f H' rs /\ R (resVal f H' rs) H') := rfl
theorem mks_undef : mks undef = [] := rfl
attribute [go_sem] mks_addM mks_undef
theorem Keep.marks {H H' : Hp} {ms : List Nat} (hs : H'.size = H.size) (hk : ∀ k, k ∉ ms -> H'[k]? = H[k]?) : Keep (fun k => k ∈ ms) H H' := ⟨by omega, fun k _ h => hk k h⟩
end Go.Mg
