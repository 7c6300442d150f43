/- Functions that range over a function, and functions that hand out rounds. -/
import Derived.Test.YtihlnbepcimnfaaDoorMgRf
namespace Go.Mg
open Go Go.RowKit
set_option linter.unusedVariables false

/-! ### a function that ranges over a function -/
def rfParts : Code → Option (Oper × Nat × Nat)
  | .region _ ops false => match ops.toList with
    | [ao] => match ao.op, ao.dst, ao.guard with
      | .assign (.tmp p), some i, none => some (ao, p, i)
      | _, _, _ => none
    | _ => none
  | _ => none
def transR (P : Program) (L : List Nat) (n g : Nat) : Code → Option S
  | .seq a b => (transR P L n g a).bind fun x => (transR P L n g b).map (.seq x ·)
  | .cond c a b => (trA L [] c).bind fun c => (transR P L n g a).bind fun x => (transR P L n g b).map (.ite c x ·)
  | .block id c => (transR P L n g c).map (.blk id ·)
  | .loop c => (transR P L n g c).map .loop
  | .rangeFunc gO ps asg body => match ps.toList with
    | [p] => (rfParts asg).bind fun q => if q.2.1 = p ∧ q.2.2 < n ∧ p < n ∧ L.contains p = true ∧ L.contains q.2.2 = true ∧ L.contains g = false then
        (trA L [] gO).bind fun ga => (transB P L n body).map fun sb => .rf g ga p q.2.2 sb
      else none
    | _ => none
  | .skip => some .skip
  | .exit id => some (.exit id)
  | .ret => some .ret
  | c => (trans P L n c).bind fun s => if s.wr.contains g then none else some s
def liftR (L : List Nat) (n g : Nat) (w0 : World) (Q : Ex → Fr → Hp → Prop) : Exit → Act → World → Prop := fun e a w => ∃ e' f, e = e'.to ∧ Q e' f w.heap ∧ Rel (mkD (f g)) L n a f ∧ Same w0 w
theorem liftR_mono {L : List Nat} {n g : Nat} {w0 w1 : World} {Q : Ex → Fr → Hp → Prop} (hs : Same w0 w1) {e : Exit} {a : Act} {w : World} (h : liftR L n g w1 Q e a w) : liftR L n g w0 Q e a w :=
  let ⟨e', f, h1, h2, h3, h4⟩ := h; ⟨e', f, h1, h2, h3, hs.trans h4⟩
theorem rfParts_spec {c : Code} {q : Oper × Nat × Nat} (h : rfParts c = some q) : ∃ id, c = .region id #[q.1] false ∧ q.1.op = .assign (.tmp q.2.1) ∧ q.1.dst = some q.2.2 ∧ q.1.guard = none := by
  unfold rfParts at h
  split at h
  case h_2 => cases h
  rename_i id ops
  split at h
  case h_2 => cases h
  rename_i ao hao
  split at h
  case h_2 => cases h
  rename_i p i h1 h2 h3
  cases h
  refine ⟨id, ?_, h1, h2, h3⟩
  congr 1
  apply Array.ext'
  exact hao
theorem vc_soundR {P : Program} (hmix : P.follows .mixedOrders = true) {L : List Nat} {n g : Nat} : ∀ (c : Code) (s : S), transR P L n g c = some s → ∀ (Q : Ex → Fr → Hp → Prop) (f : Fr) (a : Act) (w : World), vc P s Q f w.heap → Rel (mkD (f g)) L n a f →
    c.wp P (liftR L n g w Q) a w := by
  have leaf : ∀ (c : Code) (s : S), ((trans P L n c).bind fun s => if s.wr.contains g then none else some s) = some s → ∀ (Q : Ex → Fr → Hp → Prop) (f : Fr) (a : Act) (w : World), vc P s Q f w.heap → Rel (mkD (f g)) L n a f →
      c.wp P (liftR L n g w Q) a w := by
    intro c s hs Q f a w h hr
    obtain ⟨s', ht, hs⟩ := Option.bind_eq_some_iff.1 hs
    split at hs
    case isTrue => cases hs
    rename_i hn
    cases hs
    have h2 := vc_keep s f w.heap Q (fun e f' H' => Q e f' H' ∧ f' g = f g) (fun e f' H' q k => ⟨q, k g (by simpa using hn)⟩) h
    refine wp_mono (vc_sound hmix c s ht _ f a w h2 hr) ?_
    rintro e a' w' ⟨e', f', rfl, ⟨hq, hg⟩, hr', hs'⟩
    exact ⟨e', f', rfl, hq, by rw [hg]; exact hr', hs'⟩
  intro c
  induction c with
  | skip =>
    intro s hs Q f a w h hr
    cases hs
    exact wp_skip ⟨.n, f, rfl, h, hr, Same.refl w⟩
  | exit id =>
    intro s hs Q f a w h hr
    cases hs
    exact wp_exit ⟨.x id, f, rfl, h, hr, Same.refl w⟩
  | ret =>
    intro s hs Q f a w h hr
    cases hs
    exact wp_ret ⟨.r, f, rfl, h, hr, Same.refl w⟩
  | seq x y ihx ihy =>
    intro s hs Q f a w h hr
    simp only [transR] at hs
    obtain ⟨sx, hx, hs⟩ := Option.bind_eq_some_iff.1 hs
    obtain ⟨sy, hy, rfl⟩ := Option.map_eq_some_iff.1 hs
    refine wp_seq (wp_mono (ihx sx hx _ f a w h hr) ?_)
    rintro e a' w' ⟨e', f', rfl, hq, hr', hs'⟩
    cases e' with
    | n => exact wp_mono (ihy sy hy _ f' a' w' hq hr') fun _ _ _ h => liftR_mono hs' h
    | x id => exact ⟨.x id, f', rfl, hq, hr', hs'⟩
    | r => exact ⟨.r, f', rfl, hq, hr', hs'⟩
  | cond c x y ihx ihy =>
    intro s hs Q f a w h hr
    simp only [transR] at hs
    obtain ⟨c', hc, hs⟩ := Option.bind_eq_some_iff.1 hs
    obtain ⟨sx, hx, hs⟩ := Option.bind_eq_some_iff.1 hs
    obtain ⟨sy, hy, rfl⟩ := Option.map_eq_some_iff.1 hs
    have hrE : RelE (mkD (f g)) L n [] [] a f := ⟨hr, fun t _ h => by simp at h⟩
    obtain ⟨hb, h1, h2⟩ := h
    have he := (hrE.rd _ _ hc).trans (isB_spec hb)
    exact wp_cond_split he (fun ht => ihx sx hx _ f a w (h1 ht) hr) (fun ht => ihy sy hy _ f a w (h2 ht) hr)
  | block id c ih =>
    intro s hs Q f a w h hr
    simp only [transR] at hs
    obtain ⟨sx, hx, rfl⟩ := Option.map_eq_some_iff.1 hs
    refine wp_block (wp_mono (ih sx hx _ f a w h hr) ?_)
    rintro e a' w' ⟨e', f', rfl, hq, hr', hs'⟩
    cases e' with
    | n => exact ⟨.n, f', rfl, hq, hr', hs'⟩
    | x i =>
      simp only [blkQ] at hq
      simp only [Ex.to, Exit.inBlock]
      split
      · rename_i hi; rw [if_pos hi] at hq; exact ⟨.n, f', rfl, hq, hr', hs'⟩
      · rename_i hi; rw [if_neg hi] at hq; exact ⟨.x i, f', rfl, hq, hr', hs'⟩
    | r => exact ⟨.r, f', rfl, hq, hr', hs'⟩
  | loop c ih =>
    intro s hs Q f a w h hr
    simp only [transR] at hs
    obtain ⟨sx, hx, rfl⟩ := Option.map_eq_some_iff.1 hs
    obtain ⟨I, ⟨m, h0⟩, hround⟩ := h
    refine wp_loop_ghost (fun k a' w' => ∃ f', I k f' w'.heap ∧ Rel (mkD (f' g)) L n a' f' ∧ Same w w') m ⟨f, h0, hr, Same.refl w⟩ ?_
    rintro k a1 w1 ⟨f1, hI, hr1, hs1⟩
    refine wp_mono (ih sx hx _ f1 a1 w1 (hround k f1 w1.heap hI) hr1) ?_
    rintro e a' w' ⟨e', f', rfl, hq, hr', hs'⟩
    cases e' with
    | n =>
      obtain ⟨m', hm, hI'⟩ := hq
      exact ⟨m', hm, f', hI', hr', hs1.trans hs'⟩
    | x i => exact ⟨.x i, f', rfl, hq, hr', hs1.trans hs'⟩
    | r => exact ⟨.r, f', rfl, hq, hr', hs1.trans hs'⟩
  | rangeFunc gO ps asg body iha ihb =>
    intro s hs Q f a w h hr
    simp only [transR] at hs
    split at hs
    case h_2 => cases hs
    rename_i p hps
    obtain ⟨q, hq, hs⟩ := Option.bind_eq_some_iff.1 hs
    split at hs
    case isFalse => cases hs
    rename_i hc
    obtain ⟨rfl, h1, h2, h3, h4, h5⟩ := hc
    obtain ⟨ga, hga, hs⟩ := Option.bind_eq_some_iff.1 hs
    obtain ⟨sb, hsb, rfl⟩ := Option.map_eq_some_iff.1 hs
    obtain ⟨id, rfl, g1, g2, g3⟩ := rfParts_spec hq
    have hpe : ps = #[q.2.1] := by apply Array.ext'; exact hps
    subst hpe
    refine wp_mono (wpIn_wide.1 (rf_sound (n := n) (Q := Q) (f := f) hmix hga h3 h4 h1 h2 g1 g2 g3 hsb h5 h hr)) ?_
    rintro e a' w' ⟨e', f', rfl, hq', hr', hs', rfl⟩
    refine ⟨e', _, rfl, hq', ?_, hs'⟩
    have : mkD (upd f g (addM (f g) w.heap.size) g) = { target := .collected w.heap.size, args := #[] } :: mkD (f g) := by
      simp only [upd, if_true, mkD_addM]
    rw [this]; exact hr'
  | region id ops draw => exact leaf _
  | _ => intro s hs; simp [transR, trans] at hs
/-- as 'retQ', the marks struck -/
def retQR (g : Nat) (rs : List RV) (R : Value → Hp → Prop) : Ex → Fr → Hp → Prop
  | .x _, _, _ => False
  | _, f, H => (mks (f g)).Nodup ∧ (∀ m ∈ mks (f g), H[m]? = some (.deferred (some []))) ∧
    ∀ H' : Hp, H'.size = H.size → (∀ k, k ∉ mks (f g) → H'[k]? = H[k]?) → resPre f H' rs ∧ R (resVal f H' rs) H'
def codeOfR (P : Program) (fn : Func) : Option (S × List RV) :=
  fn.body.bind fun c => (transR P (liveF fn) fn.ntmps fn.ntmps c).bind fun s => (fn.results.toList.mapM (trR P (liveF fn))).map fun rs => (s, rs)
structure FnIsR (P : Program) (k : FuncId) (s : S) (rs : List RV) (np g : Nat) : Prop where
  ok : ∃ fn c L, P.funcs[k]? = some fn ∧ fn.body = some c ∧ transR P L fn.ntmps g c = some s ∧ fn.results.toList.mapM (trR P L) = some rs ∧ np ≤ fn.ntmps ∧ g = fn.ntmps
  mix : P.follows .mixedOrders = true
  body : bodyOk P k = true
theorem FnIsR.mk' {P : Program} {k : FuncId} {fn : Func} {s : S} {rs : List RV} {np g : Nat} (hf : P.funcs[k]? = some fn) (hm : P.follows .mixedOrders = true) (hc : codeOfR P fn = some (s, rs)) (hn : (decide (np ≤ fn.ntmps) && decide (g = fn.ntmps)) = true)
    (hb : (fn.name == "runtime.NumGoroutine") = false) : FnIsR P k s rs np g := by
  unfold codeOfR at hc
  obtain ⟨c, h1, hc⟩ := Option.bind_eq_some_iff.1 hc
  obtain ⟨s', h2, hc⟩ := Option.bind_eq_some_iff.1 hc
  obtain ⟨rs', h3, hc⟩ := Option.map_eq_some_iff.1 hc
  cases hc
  simp only [Bool.and_eq_true, decide_eq_true_eq] at hn
  obtain ⟨hn, rfl⟩ := hn
  refine ⟨⟨fn, c, _, hf, h1, h2, h3, hn, rfl⟩, hm, ?_⟩
  simp [bodyOk, hf, h1, hb]
theorem results_run {P : Program} {L : List Nat} {D : List Deferred} {fn : Func} {rs : List RV} {a' : Act} {f' : Fr} {w' : World} (hr' : Rel D L fn.ntmps a' f') (hres : fn.results.toList.mapM (trR P L) = some rs) (h1 : resPre f' w'.heap rs) :
    (results fn a'.tmps).run P w' = .ok (resVal f' w'.heap rs) w' := by
  have hrun := res_run (P := P) hr' (w := w') hres h1
  rw [results_rvS, Array.mapM_eq_mapM_toList]
  simp only [bind_pure_comp, Functor.map_map, Sem.run_map]
  rw [hrun]
  simp only [Result.andThen]
  congr 1
  cases rs with
  | nil => rfl
  | cons r l => cases l with
    | nil => rfl
    | cons r2 l => simp [resVal]
theorem leaves_marks {P : Program} {fn : Func} {tmps : Array Value} {R : Ending → World → Prop} : ∀ (ms : List Nat) (w : World), ms.Nodup → (∀ m ∈ ms, w.heap[m]? = some (.deferred (some []))) →
    (∀ w' : World, w'.heap.size = w.heap.size → (∀ k, k ∉ ms → w'.heap[k]? = w.heap[k]?) → Same w w' → LeavesIn Fence.wide 0 P fn tmps R [] .returning w') →
    LeavesInM Fence.wide 0 P fn tmps R (ms.map fun m => { target := .collected m, args := #[] }) .returning w
  | [], w, _, _, h => h w rfl (fun _ _ => rfl) (Same.refl w)
  | m :: ms, w, hn, hm, h => by
    rw [List.nodup_cons] at hn
    refine ⟨by simp, .inl ⟨m, w.putObj m (.deferred none), rfl, run_takeDeferred (hm m (by simp)), ?_⟩⟩
    refine leaves_marks ms _ hn.2 (fun x hx => ?_) (fun w' h1 h2 h3 => ?_)
    · rw [World.putObj_heap_other (by rintro rfl; exact hn.1 hx)]; exact hm x (by simp [hx])
    · refine h w' (by rw [h1]; exact World.putObj_size) (fun k hk => ?_) ((put_same _ _ _).trans h3)
      simp only [List.mem_cons, not_or] at hk
      rw [h2 k hk.2, World.putObj_heap_other hk.1]
theorem calls_of_vcR {P : Program} {k : FuncId} {s : S} {rs : List RV} {np g : Nat} (hk : FnIsR P k s rs np g) {args : List Value} (ha : args.length ≤ np) {H : Hp} {R : Value → Hp → Prop}
    (h : vc P s (retQR g rs R) (look (enumA 0 args)) H) : CallsM P k args.toArray H R := by
  obtain ⟨⟨fn, c, L, hf, hb, ht, hres, hn, hg⟩, hmix, _⟩ := hk
  intro w hw
  have look0 : ∀ t, look (enumA 0 args) t = args.getD t undef := fun t => by have := look_enumA args 0 t; rwa [Nat.zero_add] at this
  have hm0 : mkD (look (enumA 0 args) g) = [] := by
    rw [look0, List.getD_eq_getElem?_getD, List.getElem?_eq_none (by omega)]; rfl
  have hr : Rel (mkD (look (enumA 0 args) g)) L fn.ntmps { tmps := args.toArray ++ Array.replicate (fn.ntmps - args.toArray.size) undef, defers := [] } (look (enumA 0 args)) := by
    rw [hm0]
    refine ⟨rfl, by simp; omega, fun t _ => ?_⟩
    rw [look0, Array.getD_eq_getD_getElem?, List.getD_eq_getElem?_getD]
    by_cases ht : t < args.length
    · simp [Array.getElem?_append, ht]
    · rw [Array.getElem?_append, if_neg (by simpa using ht), List.getElem?_eq_none (by omega)]
      simp only [Array.getElem?_replicate]
      split <;> rfl
  refine callsIn_wide.1 (callsIn_of_wp_marks (n := 0) hf hb trivial ?_)
  refine wpIn_wide.2 (wp_mono (vc_soundR hmix c s ht _ _ _ w (hw ▸ h) hr) ?_)
  rintro e a' w' ⟨e', f', rfl, hq, hr', hs'⟩
  have fin : retQR g rs R .r f' w'.heap → LeavesInM Fence.wide 0 P fn a'.tmps (fun e w' => ∃ v, e = .returned v ∧ R v w'.heap ∧ Same w w') a'.defers .returning w' := by
    rintro ⟨h1, h2, h3⟩
    rw [hr'.d]
    refine leaves_marks _ _ h1 h2 fun w2 g1 g2 g3 => ?_
    obtain ⟨h4, h5⟩ := h3 w2.heap g1 g2
    exact ⟨_, results_run (w' := w2) hr' hres h4, _, rfl, h5, hs'.trans g3⟩
  cases e' with
  | n => exact fin hq
  | r => exact fin hq
  | x i => exact hq.elim
end Go.Mg
