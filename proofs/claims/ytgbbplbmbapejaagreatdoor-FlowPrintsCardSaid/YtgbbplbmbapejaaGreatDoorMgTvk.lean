/- Several texts of ours in one. No conditions. -/
import Derived.Test.YtgbbplbmbapejaaGreatDoorMgFn
set_option linter.all false
namespace Go.Mg
open Go Go.RowKit
section
variable (P : Program)
@[go_sem] theorem vc_skip (Q) (f : Fr) (H : Hp) : vc P .skip Q f H = Q .n f H := rfl
@[go_sem] theorem vc_reg (l : List O) (Q) (f : Fr) (H : Hp) : vc P (.reg l) Q f H = ops P l [] f H (Q .n) := rfl
@[go_sem] theorem vc_seq (a b : S) (Q) (f : Fr) (H : Hp) : vc P (.seq a b) Q f H = vc P a (thenQ (vc P b Q) Q) f H := rfl
@[go_sem] theorem vc_blk (i : Nat) (s : S) (Q) (f : Fr) (H : Hp) : vc P (.blk i s) Q f H = vc P s (blkQ i Q) f H := rfl
@[go_sem] theorem vc_exit (i : Nat) (Q) (f : Fr) (H : Hp) : vc P (.exit i) Q f H = Q (.x i) f H := rfl
@[go_sem] theorem vc_ret (Q) (f : Fr) (H : Hp) : vc P .ret Q f H = Q .r f H := rfl
@[go_sem] theorem thenQ_n (N) (Q) (f : Fr) (H : Hp) : thenQ N Q .n f H = N f H := rfl
@[go_sem] theorem thenQ_x (N) (Q) (i : Nat) (f : Fr) (H : Hp) : thenQ N Q (.x i) f H = Q (.x i) f H := rfl
@[go_sem] theorem thenQ_r (N) (Q) (f : Fr) (H : Hp) : thenQ N Q .r f H = Q .r f H := rfl
@[go_sem] theorem blkQ_n (i : Nat) (Q) (f : Fr) (H : Hp) : blkQ i Q .n f H = Q .n f H := rfl
@[go_sem] theorem blkQ_r (i : Nat) (Q) (f : Fr) (H : Hp) : blkQ i Q .r f H = Q .r f H := rfl
@[go_sem] theorem blkQ_x (i j : Nat) (Q) (f : Fr) (H : Hp) : blkQ i Q (.x j) f H = if j = i then Q .n f H else Q (.x j) f H := rfl
@[go_sem] theorem loopQ_r (I) (i : Nat) (Q) (f : Fr) (H : Hp) : loopQ I i Q .r f H = Q .r f H := rfl
@[go_sem] theorem loopQ_x (I) (i j : Nat) (Q) (f : Fr) (H : Hp) : loopQ I i Q (.x j) f H = Q (.x j) f H := rfl
@[go_sem] theorem retQ_n (rs : List RV) (R) (f : Fr) (H : Hp) : retQ rs R .n f H = (resPre f H rs /\ R (resVal f H rs) H) := rfl
@[go_sem] theorem retQ_r (rs : List RV) (R) (f : Fr) (H : Hp) : retQ rs R .r f H = (resPre f H rs /\ R (resVal f H rs) H) := rfl
@[go_sem] theorem ops_nil (e : Env) (f : Fr) (H : Hp) (Q) : ops P [] e f H Q = Q f H := rfl
@[go_sem] theorem ops_p (d : D) (x : PX) (r : List O) (e : Env) (f : Fr) (H : Hp) (Q) :
  ops P (.p d x :: r) e f H Q = (x.pre (A.rd e f) H /\ ops P r (d.env (x.val (A.rd e f) H) e) (d.fr (x.val (A.rd e f) H) f) H Q) := rfl
@[go_sem] theorem ops_gp (d : D) (g : A) (b : Bool) (x : PX) (r : List O) (e : Env) (f : Fr) (H : Hp) (Q) :
  ops P (.gp d g b x :: r) e f H Q = ((gb (g.rd e f) b = true -> x.pre (A.rd e f) H) ∧
   ops P r (d.env (if gb (g.rd e f) b = true then x.val (A.rd e f) H else undef) e) (d.fr (if gb (g.rd e f) b = true then x.val (A.rd e f) H else undef) f) H Q) := rfl
@[go_sem] theorem ops_e (d : D) (x : EX) (r : List O) (e : Env) (f : Fr) (H : Hp) (Q) : ops P (.e d x :: r) e f H Q = x.wp P (A.rd e f) H (kont P d r e f Q) := rfl
@[go_sem] theorem ops_ge (d : D) (g : A) (b : Bool) (x : EX) (r : List O) (e : Env) (f : Fr) (H : Hp) (Q) :
  ops P (.ge d g b x :: r) e f H Q = ((gb (g.rd e f) b = true -> x.wp P (A.rd e f) H (kont P d r e f Q)) /\ (gb (g.rd e f) b = false -> ops P r (d.env undef e) (d.fr undef f) H Q)) := rfl
theorem kont_eq (d : D) (r : List O) (e : Env) (f : Fr) (Q) (v : Value) (H : Hp) : kont P d r e f Q v H = ops P r (d.env v e) (d.fr v f) H Q := rfl
@[go_sem] theorem rd_t (e : Env) (f : Fr) (n : Nat) : A.rd e f (.t n) = look e n := rfl
@[go_sem] theorem rd_v (e : Env) (f : Fr) (n : Nat) : A.rd e f (.v n) = f n := rfl
@[go_sem] theorem rd_c (e : Env) (f : Fr) (v : Value) : A.rd e f (.c v) = v := rfl
@[go_sem] theorem look_cons (k : Nat) (x : Value) (e : Env) (n : Nat) : look ((k, x) :: e) n = if n = k then x else look e n := rfl
@[go_sem] theorem look_nil (n : Nat) : look [] n = undef := rfl
@[go_sem] theorem upd_eq (f : Fr) (d : Nat) (x : Value) (i : Nat) : upd f d x i = if i = d then x else f i := rfl
@[go_sem] theorem env_t (n : Nat) (x : Value) (e : Env) : D.env (.t n) x e = (n, x) :: e := rfl
@[go_sem] theorem env_v (n : Nat) (x : Value) (e : Env) : D.env (.v n) x e = e := rfl
@[go_sem] theorem env_no (x : Value) (e : Env) : D.env .no x e = e := rfl
@[go_sem] theorem fr_t (n : Nat) (x : Value) (f : Fr) : D.fr (.t n) x f = f := rfl
@[go_sem] theorem fr_v (n : Nat) (x : Value) (f : Fr) : D.fr (.v n) x f = upd f n x := rfl
@[go_sem] theorem fr_no (x : Value) (f : Fr) : D.fr .no x f = f := rfl
@[go_sem] theorem enum_nil (k : Nat) : enumA k [] = [] := rfl
@[go_sem] theorem enum_cons (k : Nat) (x : Value) (l : List Value) : enumA k (x :: l) = (k, x) :: enumA (k + 1) l := rfl
@[go_sem] theorem isI_int (k k' : IntKind) (n : Int) : isI k (.int k' n) = (k' = k) := rfl
@[go_sem] theorem isSl_slice (a : Option Addr) (l c : Nat) : isSl (.slice a l c) = True := rfl
@[go_sem] theorem lenV_slice (a : Option Addr) (l c : Nat) : lenV (.slice a l c) = l := rfl
@[go_sem] theorem capV_slice (a : Option Addr) (l c : Nat) : capV (.slice a l c) = c := rfl
@[go_sem] theorem adrV_slice (a : Option Addr) (l c : Nat) : adrV (.slice a l c) = a := rfl
attribute [go_sem] PX.free PM.free forall_eq okFs eqFs mxF
@[go_sem] theorem gL_agg (l : List Value) : gL (.agg l.toArray) = l := rfl
attribute [go_sem] List.getD_cons_zero List.getD_cons_succ
@[go_sem] theorem gb_bool (x b : Bool) : gb (.bool x) b = (x == b) := rfl
@[go_sem] theorem gb_undef (b : Bool) : gb undef b = false := rfl
attribute [go_sem] Option.getD_some Option.isSome_some Value.oneCell' PX.pre PX.val PM.pre PM.val arI dvI shI cmI scB isInt isB isS isP isAg okNil isNilV Value.i Value.b Value.s Value.g okI oi okLH loN hiN ptrAdd eltP okElt tupI noMeth resPre resVal RV.pre RV.val isPt lenS srcOk okSt stH EX.wp
theorem zS : (∀ {α β : Type} (f : α -> β) (a : α) (l : List α), List.map f (a :: l) = f a :: List.map f l) /\ (∀ {α β : Type} (f : α -> β), List.map f [] = []) /\ (∀ p : Prop, (p /\ True) = p) /\ (∀ p : Prop, (True /\ p) = p) ∧
  (∀ n : Nat, n * 1 = n) /\ (∀ n : Nat, 0 + n = n) /\ ((false = true) = False) /\ (∀ h : Decidable True, @decide True h = true) /\ (∀ h : Decidable False, @decide False h = false) /\ ((¬ False) = True) :=
 ⟨fun f a l => List.map_cons, fun f => List.map_nil, and_true, true_and, Nat.mul_one, Nat.zero_add, Bool.false_eq_true, decide_true, decide_false, not_false_eq_true⟩
theorem zU : (∀ {α : Type} [BEq α] [ReflBEq α] (a : α), (a == a) = true) /\ (∀ {α : Type} [BEq α] [LawfulBEq α] (a : α), (a != a) = false) /\ (∀ {n : Nat}, ((no_index (OfNat.ofNat n) : Nat) : Int) = OfNat.ofNat n) :=
 ⟨beq_self_eq_true, bne_self_eq_false, Int.cast_ofNat_Int⟩
theorem zV : (∀ n : Int, n <= n) /\ (∀ p : Prop, (p /\ p) = p) /\ (∀ n : Nat, n <= n) := ⟨Int.le_refl, and_self, Nat.le_refl⟩
end
end Go.Mg
namespace Go.Mg
open Go Go.RowKit
theorem EX.wp_mono {P : Program} {x : EX} {r : A -> Value} {H : Hp} {K K' : Value -> Hp -> Prop} (h : ∀ v H', K v H' -> K' v H') (hx : x.wp P r H K) : x.wp P r H K' := by
 cases x with
 | st a y => exact ⟨hx.1, h _ _ hx.2⟩
 | stn n a y => exact ⟨hx.1, h _ _ hx.2⟩
 | new T z => exact h _ _ hx
 | rd y => exact ⟨hx.1, h _ _ hx.2⟩
 | box T a => exact h _ _ hx
 | call f args => exact CallsM.mono hx h
 | callv f args =>
  simp only [EX.wp] at hx ⊢
  split at hx
  ·exact ⟨hx.1, CallsM.mono hx.2 h⟩
  ·exact hx.elim
 | cally f args => obtain ⟨l, h1, h2⟩ := hx; exact ⟨l, h1, h2.mono h⟩
 | lib f args => exact fun w hw => let ⟨v, w', h1, h2, h3⟩ := hx w hw; ⟨v, w', h1, h2, h _ _ h3⟩
 | mup m k v => obtain ⟨h1, b, es, cl, h2, h3, h4, h5⟩ := hx; exact ⟨h1, b, es, cl, h2, h3, h4, h _ _ h5⟩
 | mui kk m k v => obtain ⟨h1, b, es, cl, h2, h3, h4, h5⟩ := hx; exact ⟨h1, b, es, cl, h2, h3, h4, h _ _ h5⟩
 | mkm => exact h _ _ hx
 | bad => exact hx.elim
 | bldF T s n ps => exact ⟨hx.1, h _ _ hx.2⟩
 | bldS T n zs ps => exact ⟨hx.1, h _ _ hx.2⟩
 | mkS T s b z l c => exact ⟨hx.1, h _ _ hx.2⟩
 | app str T s b z sv xv =>
  obtain ⟨h1, news, h2, h3, h4⟩ := hx
  exact ⟨h1, news, h2, fun g => ⟨(h3 g).1, h _ _ (h3 g).2⟩, fun g => let ⟨o, g1, g2⟩ := h4 g; ⟨o, g1, fun c hc => h _ _ (g2 c hc)⟩⟩
 | cpy str s d sv => obtain ⟨h1, news, h2, h3, h4⟩ := hx; exact ⟨h1, news, h2, h3, h _ _ h4⟩
 | clr z a => exact ⟨hx.1, hx.2.1, h _ _ hx.2.2⟩
 | s2b T a => exact ⟨hx.1, fun c hc => h _ _ (hx.2 c hc)⟩
 | mark a =>
  simp only [EX.wp] at hx ⊢
  split at hx
  ·split at hx <;> exact h _ _ hx
  ·exact hx.elim
def D.wr : D -> List Nat
 | .v n => [n]
 | _ => []
def O.wr : O -> List Nat
 | .p d _ | .e d _ | .gp d _ _ _ | .ge d _ _ _ => d.wr
def T.wr : T -> List Nat
 | .px d _ _ t => d.wr ++ t.wr
 | .wcons d _ _ t m => d.wr ++ t.wr ++ m.wr
 | _ => []
def S.wr : S -> List Nat
 | .reg l => l.flatMap O.wr
 | .dr t => t.wr
 | .seq a b | .ite _ a b => a.wr ++ b.wr
 | .blk _ s | .loop s => s.wr
 | .rf g _ _ _ _ => [g]
 | _ => []
theorem fr_keep (d : D) (x : Value) (f : Fr) (i : Nat) (h : i ∉ d.wr) : d.fr x f i = f i := by
 cases d <;> simp only [D.fr]
 simp [D.wr] at h
 simp [upd, h]
theorem ops_keep {P : Program} : ∀ (l : List O) (e : Env) (f : Fr) (H : Hp) (Q Q' : Fr -> Hp -> Prop), (∀ f' H', Q f' H' -> (∀ i, i ∉ l.flatMap O.wr -> f' i = f i) -> Q' f' H') -> ops P l e f H Q -> ops P l e f H Q'
 | [], e, f, H, Q, Q', h, hq => h _ _ hq (fun _ _ => rfl)
 | .p d x :: r, e, f, H, Q, Q', h, hq => ⟨hq.1, ops_keep r _ _ _ Q Q' (fun f' H' q k => h f' H' q (fun i hi => by
   simp only [List.flatMap_cons, List.mem_append, not_or] at hi
   rw [k i hi.2, fr_keep d _ _ i hi.1])) hq.2⟩
 | .gp d g b x :: r, e, f, H, Q, Q', h, hq => ⟨hq.1, ops_keep r _ _ _ Q Q' (fun f' H' q k => h f' H' q (fun i hi => by
   simp only [List.flatMap_cons, List.mem_append, not_or] at hi
   rw [k i hi.2, fr_keep d _ _ i hi.1])) hq.2⟩
 | .e d x :: r, e, f, H, Q, Q', h, hq => EX.wp_mono (fun v H' hk => ops_keep r _ _ _ Q Q' (fun f' H'' q k => h f' H'' q (fun i hi => by
   simp only [List.flatMap_cons, List.mem_append, not_or] at hi
   rw [k i hi.2, fr_keep d _ _ i hi.1])) hk) hq
 | .ge d g b x :: r, e, f, H, Q, Q', h, hq => by
  have key : ∀ v e' H', ops P r e' (d.fr v f) H' Q -> ops P r e' (d.fr v f) H' Q' := fun v e' H' => ops_keep r _ _ _ Q Q' (fun f' H'' q k => h f' H'' q (fun i hi => by
   simp only [List.flatMap_cons, List.mem_append, not_or] at hi
   rw [k i hi.2, fr_keep d _ _ i hi.1]))
  exact ⟨fun hg => EX.wp_mono (fun v H' hk => key _ _ _ hk) (hq.1 hg), fun hg => key _ _ _ (hq.2 hg)⟩
theorem tvc_keep {P : Program} : ∀ (C : Hp -> Prop) (t : T) (e : Env) (f : Fr) (H : Hp) (Q Q' : Fr -> Hp -> Prop), (∀ f' H', Q f' H' -> (∀ i, i ∉ t.wr -> f' i = f i) -> Q' f' H') -> tvc P C t e f H Q -> tvc P C t e f H Q'
 | C, .done, e, f, H, Q, Q', h, hq => h _ _ hq (fun _ _ => rfl)
 | C, .wnil, e, f, H, Q, Q', h, hq => trivial
 | C, .px d none x t, e, f, H, Q, Q', h, hq => ⟨hq.1, tvc_keep _ t _ _ _ Q Q' (fun f' H' q k => h f' H' q (fun i hi => by
   simp only [T.wr, List.mem_append, not_or] at hi
   rw [k i hi.2, fr_keep d _ _ i hi.1])) hq.2⟩
 | C, .px d (some (y, b)) x t, e, f, H, Q, Q', h, hq => ⟨hq.1, tvc_keep _ t _ _ _ Q Q' (fun f' H' q k => h f' H' q (fun i hi => by
   simp only [T.wr, List.mem_append, not_or] at hi
   rw [k i hi.2, fr_keep d _ _ i hi.1])) hq.2⟩
 | C, .wcons d none x t m, e, f, H, Q, Q', h, hq => ⟨EX.wp_mono (fun v H' ⟨C', hk, hk1, hk2⟩ => ⟨C', hk, hk1, tvc_keep _ t _ _ _ Q Q' (fun f' H'' q k => h f' H'' q (fun i hi => by
   simp only [T.wr, List.mem_append, not_or] at hi
   rw [k i hi.1.2, fr_keep d _ _ i hi.1.1])) hk2⟩) hq.1, tvc_keep _ m _ _ _ Q Q' (fun f' H' q k => h f' H' q (fun i hi => by
   simp only [T.wr, List.mem_append, not_or] at hi
   exact k i hi.2)) hq.2⟩
 | C, .wcons d (some (y, b)) x t m, e, f, H, Q, Q', h, hq => by
  have key : ∀ (C : Hp -> Prop) v e' H', tvc P C t e' (d.fr v f) H' Q -> tvc P C t e' (d.fr v f) H' Q' := fun C v e' H' => tvc_keep _ t _ _ _ Q Q' (fun f' H'' q k => h f' H'' q (fun i hi => by
   simp only [T.wr, List.mem_append, not_or] at hi
   rw [k i hi.1.2, fr_keep d _ _ i hi.1.1]))
  refine ⟨⟨fun hg => EX.wp_mono (fun v H' ⟨C', hk, hk1, hk2⟩ => ⟨C', hk, hk1, key _ _ _ _ hk2⟩) (hq.1.1 hg), fun hg => key _ _ _ _ (hq.1.2 hg)⟩, tvc_keep _ m _ _ _ Q Q' (fun f' H' q k => h f' H' q (fun i hi => by
   simp only [T.wr, List.mem_append, not_or] at hi
   exact k i hi.2)) hq.2⟩
theorem vc_keep {P : Program} : ∀ (s : S) (f : Fr) (H : Hp) (Q Q' : Ex -> Fr -> Hp -> Prop), (∀ e f' H', Q e f' H' -> (∀ i, i ∉ s.wr -> f' i = f i) -> Q' e f' H') -> vc P s Q f H -> vc P s Q' f H
 | .skip, f, H, Q, Q', h, hq => h _ _ _ hq (fun _ _ => rfl)
 | .exit _, f, H, Q, Q', h, hq => h _ _ _ hq (fun _ _ => rfl)
 | .ret, f, H, Q, Q', h, hq => h _ _ _ hq (fun _ _ => rfl)
 | .reg l, f, H, Q, Q', h, hq => ops_keep l _ _ _ _ _ (fun f' H' q k => h _ _ _ q k) hq
 | .dr t, f, H, Q, Q', h, hq => let ⟨C, hC, ht⟩ := hq; ⟨C, hC, tvc_keep C t _ _ _ _ _ (fun f' H' q k => h _ _ _ q k) ht⟩
 | .seq a b, f, H, Q, Q', h, hq => by
  refine vc_keep a f H _ _ ?_ hq
  intro e f1 H1 q k
  cases e with
  | n =>
   refine vc_keep b f1 H1 _ _ ?_ q
   intro e f2 H2 q2 k2
   exact h _ _ _ q2 (fun i hi => by simp only [S.wr, List.mem_append, not_or] at hi; rw [k2 i hi.2, k i hi.1])
  | x i => exact h _ _ _ q (fun i hi => by simp only [S.wr, List.mem_append, not_or] at hi; exact k i hi.1)
  | r => exact h _ _ _ q (fun i hi => by simp only [S.wr, List.mem_append, not_or] at hi; exact k i hi.1)
 | .ite c a b, f, H, Q, Q', h, hq => by
  obtain ⟨h1, h2, h3⟩ := hq
  exact ⟨h1, fun hc => vc_keep a f H _ _ (fun e f' H' q k => h _ _ _ q (fun i hi => by simp only [S.wr, List.mem_append, not_or] at hi; exact k i hi.1)) (h2 hc),
   fun hc => vc_keep b f H _ _ (fun e f' H' q k => h _ _ _ q (fun i hi => by simp only [S.wr, List.mem_append, not_or] at hi; exact k i hi.2)) (h3 hc)⟩
 | .blk id s, f, H, Q, Q', h, hq => by
  refine vc_keep s f H _ _ ?_ hq
  intro e f1 H1 q k
  cases e with
  | n => exact h _ _ _ q k
  | x i =>
   simp only [blkQ] at q ⊢
   split
   ·rename_i hi; rw [if_pos hi] at q; exact h _ _ _ q k
   ·rename_i hi; rw [if_neg hi] at q; exact h _ _ _ q k
  | r => exact h _ _ _ q k
 | .rf g a p i s, f, H, Q, Q', h, hq => by
  obtain ⟨gf, lb, xs, G, J, X, h1, h2, h3, h4, h5, h6, h7⟩ := hq
  have hk : ∀ k, k ∉ (S.rf g a p i s).wr -> upd f g (addM (f g) H.size) k = f k := fun k hk => by
   simp only [S.wr, List.mem_singleton] at hk
   simp only [upd, if_neg hk]
  exact ⟨gf, lb, xs, G, J, X, h1, h2, h3, h4, h5, fun H1 hj => h _ _ _ (h6 H1 hj) hk, fun e H1 hx => h _ _ _ (h7 e H1 hx) hk⟩
 | .loop s, f, H, Q, Q', h, hq => by
  obtain ⟨I, ⟨n, h0⟩, hr⟩ := hq
  refine ⟨fun n f1 H1 => I n f1 H1 /\ ∀ i, i ∉ s.wr -> f1 i = f i, ⟨n, h0, fun _ _ => rfl⟩, ?_⟩
  rintro n f1 H1 ⟨hI, hk⟩
  refine vc_keep s f1 H1 _ _ ?_ (hr n f1 H1 hI)
  intro e f2 H2 q k
  cases e with
  | n => obtain ⟨m, hm, hI2⟩ := q; exact ⟨m, hm, hI2, fun i hi => by rw [k i hi, hk i hi]⟩
  | x i => exact h _ _ _ q (fun i hi => by rw [k i hi, hk i hi])
  | r => exact h _ _ _ q (fun i hi => by rw [k i hi, hk i hi])
theorem vc_mono {P : Program} {s : S} {f : Fr} {H : Hp} {Q Q' : Ex -> Fr -> Hp -> Prop} (h : ∀ e f' H', Q e f' H' -> Q' e f' H') (hq : vc P s Q f H) : vc P s Q' f H :=
 vc_keep s f H Q Q' (fun e f' H' q _ => h e f' H' q) hq
def over (f : Fr) (g : Fr) : List Nat -> Fr
 | [] => f
 | w :: ws => fun i => if i = w then g i else over f g ws i
@[go_sem] theorem over_nil (f g : Fr) (i : Nat) : over f g [] i = f i := rfl
@[go_sem] theorem over_cons (f g : Fr) (w : Nat) (ws : List Nat) (i : Nat) : over f g (w :: ws) i = if i = w then g i else over f g ws i := rfl
theorem over_eq (f g : Fr) : ∀ (ws : List Nat) (i : Nat), over f g ws i = if i ∈ ws then g i else f i
 | [], i => by simp [over]
 | w :: ws, i => by
  simp only [over, List.mem_cons]
  by_cases h : i = w
  ·simp [h]
  ·simp [h, over_eq f g ws i]
theorem over_self {f g : Fr} {ws : List Nat} (h : ∀ i, i ∉ ws -> g i = f i) : over f g ws = g := by
 funext i; rw [over_eq]; split
 ·rfl
 ·rename_i hi; exact (h i hi).symm
theorem vc_loop {P : Program} {s : S} {Q : Ex -> Fr -> Hp -> Prop} {f : Fr} {H : Hp} (ws : List Nat) (hws : s.wr.all (ws.contains ·) = true) (I : Nat -> Fr -> Hp -> Prop) (n₀ : Nat) (h0 : I n₀ f H)
  (hr : ∀ n g H', I n (over f g ws) H' -> vc P s (loopQ I n Q) (over f g ws) H') : vc P (.loop s) Q f H := by
 refine ⟨fun n f1 H1 => I n f1 H1 /\ ∀ i, i ∉ ws -> f1 i = f i, ⟨n₀, h0, fun _ _ => rfl⟩, ?_⟩
 rintro n f1 H1 ⟨hI, hk⟩
 have e := over_self hk
 have := hr n f1 H1 (by rw [e]; exact hI)
 rw [e] at this
 refine vc_keep s f1 H1 _ _ ?_ this
 intro ex f2 H2 q k
 have hsub : ∀ i, i ∉ ws -> i ∉ s.wr := fun i hi hm => by
  have := List.all_eq_true.1 hws i hm
  exact hi (by simpa using this)
 cases ex with
 | n => obtain ⟨m, hm, hI2⟩ := q; exact ⟨m, hm, hI2, fun i hi => by rw [k i (hsub i hi), hk i hi]⟩
 | x i => exact q
 | r => exact q
@[go_sem] theorem loopQ_n (I) (n : Nat) (Q) (f : Fr) (H : Hp) : loopQ I n Q .n f H = ∃ m, m < n /\ I m f H := rfl
def iteV (v : Value) (p q : Prop) : Prop := isB v /\ (v.b = true -> p) /\ (v.b = false -> q)
@[go_sem] theorem vc_ite (P : Program) (c : A) (a b : S) (Q) (f : Fr) (H : Hp) : vc P (.ite c a b) Q f H = iteV (c.rd [] f) (vc P a Q f H) (vc P b Q f H) := rfl
@[congr] theorem iteV_congr {v v' : Value} {p q : Prop} (h : v = v') : iteV v p q = iteV v' p q := by rw [h]
@[go_sem] theorem iteV_true (p q : Prop) : iteV (.bool true) p q = p := by simp [iteV, isB, Value.b]
@[go_sem] theorem iteV_false (p q : Prop) : iteV (.bool false) p q = q := by simp [iteV, isB, Value.b]
theorem iteV_of {b : Bool} {p q : Prop} (h1 : b = true -> p) (h2 : b = false -> q) : iteV (.bool b) p q := ⟨trivial, h1, h2⟩
theorem iteV_dec {c : Prop} [Decidable c] {p q : Prop} (h1 : c -> p) (h2 : ¬ c -> q) : iteV (.bool (decide c)) p q := ⟨trivial, fun h => h1 (by simpa [Value.b] using h), fun h => h2 (by simpa [Value.b] using h)⟩
end Go.Mg
namespace Go.Mg
open Go Go.RowKit
def Bl (H : Hp) (b : Nat) (l : List Value) : Prop := ∃ T, H[b]? = some (.cells l.toArray T (0, 0))
theorem Bl.lt {H : Hp} {b : Nat} {l : List Value} (h : Bl H b l) : b < H.size := by
 obtain ⟨T, h⟩ := h; exact (Array.getElem?_eq_some_iff.1 h).1
theorem Bl.cell {H : Hp} {b : Nat} {l : List Value} (h : Bl H b l) (o : Nat) : cell H ⟨b, o, none⟩ = l[o]? := by
 obtain ⟨T, h⟩ := h; simp [Mg.cell, h]
theorem Bl.frz {H : Hp} {b : Nat} {l : List Value} (h : Bl H b l) (o : Nat) : frz H ⟨b, o, none⟩ = false := by
 obtain ⟨T, h⟩ := h; simp [Mg.frz, h]
theorem Bl.setc {H : Hp} {b : Nat} {l : List Value} (h : Bl H b l) (o : Nat) (v : Value) : Bl (Mg.setc H ⟨b, o, none⟩ v) b (l.set o v) := by
 obtain ⟨T, h⟩ := h
 refine ⟨T, ?_⟩
 rw [setc_known (p := ⟨b, o, none⟩) rfl h, getElem?_setKnown h]
 simp
theorem getElem?_setc_ne {H : Hp} {p : Addr} {v : Value} {b : Nat} (hb : b ≠ p.block) : (setc H p v)[b]? = H[b]? := by
 unfold setc
 rw [Array.getElem?_modify, if_neg (fun e => hb e.symm)]
theorem Bl.setc_ne {H : Hp} {b : Nat} {l : List Value} (h : Bl H b l) {p : Addr} (v : Value) (hb : b ≠ p.block) : Bl (Mg.setc H p v) b l := by
 obtain ⟨T, h⟩ := h; exact ⟨T, by rw [getElem?_setc_ne hb]; exact h⟩
theorem getElem?_push_lt' {H : Hp} {o : Obj} {b : Nat} (hb : b < H.size) : (H.push o)[b]? = H[b]? := by
 rw [Array.getElem?_push, if_neg (by omega)]
theorem Bl.push {H : Hp} {b : Nat} {l : List Value} (h : Bl H b l) (o : Obj) : Bl (H.push o) b l := by
 have := h.lt
 obtain ⟨T, h⟩ := h; exact ⟨T, by rw [getElem?_push_lt' this]; exact h⟩
theorem Bl.new (H : Hp) (l : List Value) (T : TypeId) : Bl (H.push (.cells l.toArray T)) H.size l := ⟨T, by simp⟩
theorem Bl.new' (H : Hp) (C : Array Value) (T : TypeId) : Bl (H.push (.cells C T)) H.size C.toList := ⟨T, by simp⟩
theorem size_setc (H : Hp) (p : Addr) (v : Value) : (setc H p v).size = H.size := by simp [setc]
theorem Bl.okSt {H : Hp} {b : Nat} {l : List Value} (h : Bl H b l) {o : Nat} (ho : o < l.length) : (Mg.cell H ⟨b, o, none⟩).isSome = true /\ Mg.frz H ⟨b, o, none⟩ = false := by
 rw [h.cell, h.frz]; simp [ho]
structure Keep (W : Nat -> Prop) (H H' : Hp) : Prop where
 size : H.size <= H'.size
 at_ : ∀ k, k < H.size -> ¬ W k -> H'[k]? = H[k]?
theorem Keep.refl (W : Nat -> Prop) (H : Hp) : Keep W H H := ⟨Nat.le_refl _, fun _ _ _ => rfl⟩
theorem Keep.trans {W : Nat -> Prop} {A B C : Hp} (h : Keep W A B) (k : Keep W B C) : Keep W A C :=
 ⟨Nat.le_trans h.size k.size, fun i hi hw => (k.at_ i (Nat.lt_of_lt_of_le hi h.size) hw).trans (h.at_ i hi hw)⟩
theorem Keep.push {W : Nat -> Prop} {A B : Hp} (h : Keep W A B) (o : Obj) : Keep W A (B.push o) :=
 h.trans ⟨by simp, fun k hk _ => getElem?_push_lt' hk⟩
theorem Keep.setc {W : Nat -> Prop} {A B : Hp} (h : Keep W A B) {p : Addr} (v : Value) (hp : W p.block \/ A.size <= p.block) : Keep W A (Mg.setc B p v) := by
 refine ⟨by rw [size_setc]; exact h.size, fun k hk hw => ?_⟩
 rw [getElem?_setc_ne (by rintro rfl; rcases hp with hp | hp; exact hw hp; omega)]
 exact h.at_ k hk hw
theorem Keep.bl {W : Nat -> Prop} {H H' : Hp} (h : Keep W H H') {b : Nat} {l : List Value} (hb : Bl H b l) (hw : ¬ W b) : Bl H' b l := by
 have := hb.lt
 obtain ⟨T, hb⟩ := hb; exact ⟨T, by rw [h.at_ b this hw]; exact hb⟩
theorem Keep.mono {W W' : Nat -> Prop} {H H' : Hp} (h : Keep W H H') (hw : ∀ k, k < H.size -> W k -> W' k) : Keep W' H H' :=
 ⟨h.size, fun k hk hn => h.at_ k hk (fun a => hn (hw k hk a))⟩
theorem Keep.trans' {W W' : Nat -> Prop} {A B C : Hp} (h : Keep W A B) (k : Keep W' B C) (hw : ∀ i, i < A.size -> W' i -> W i) : Keep W A C :=
 ⟨Nat.le_trans h.size k.size, fun i hi hn => (k.at_ i (Nat.lt_of_lt_of_le hi h.size) (fun a => hn (hw i hi a))).trans (h.at_ i hi hn)⟩
@[go_sem] theorem ldO_ptr (H : Hp) (a : Addr) : ldO H (.pointer (some a)) = cell H a := rfl
@[go_sem] theorem add_mk (b o n : Nat) : Addr.add ⟨b, o, none⟩ n = ⟨b, o + n, none⟩ := add_off _ rfl n
@[go_sem] theorem tn_cast (a : Nat) : ((a : Int)).toNat = a := by simp
@[go_sem] theorem tn_add (a n : Nat) : ((a : Int) + (no_index (OfNat.ofNat n) : Int)).toNat = a + OfNat.ofNat n := by
 show ((a : Int) + ((n : Nat) : Int)).toNat = a + n
 omega
end Go.Mg
namespace Go.Mg
structure Ids where
 f : Nat -> Nat
 t : Nat -> Nat
 g : Nat -> Nat
end Go.Mg
namespace Go.Mg
open Go Go.RowKit
set_option linter.all false
def ldS (W : Nat -> Prop) (v : Value) : Prop := match v with | .pointer (some p) => ¬ W p.block | _ => False
def slS (W : Nat -> Prop) (v : Value) : Prop := match v with | .slice (some p) n _ => n = 0 \/ ¬ W p.block | _ => True
def mapS (W : Nat -> Prop) (v : Value) : Prop := match v with | .map (some b) => ¬ W b | _ => True
def stabX (W : Nat -> Prop) (x : PX) (r : A -> Value) (H : Hp) : Prop :=
 match x with
 | .ld a => ldS W (r a) /\ x.pre r H
 | .m (.ldn _ a) => ldS W (r a) /\ x.pre r H
 | .m (.b2s a) => slS W (r a) /\ x.pre r H
 | .m (.lks _ _ m _) => mapS W (r m) /\ x.pre r H
 | .m (.lki _ _ m _) => mapS W (r m) /\ x.pre r H
 | x => if x.free = true then x.pre r H else False
def tvk (P : Program) (W : Nat -> Prop) : T -> Env -> Fr -> Hp -> (Fr -> Hp -> Prop) -> Prop
 | .done, _, f, H, Q => Q f H
 | .px d none x t, e, f, H, Q => stabX W x (A.rd e f) H /\ tvk P W t (d.env (x.val (A.rd e f) H) e) (d.fr (x.val (A.rd e f) H) f) H Q
 | .px d (some (y, b)) x t, e, f, H, Q => (gb (y.rd e f) b = true -> stabX W x (A.rd e f) H) ∧
   tvk P W t (d.env (if gb (y.rd e f) b = true then x.val (A.rd e f) H else undef) e) (d.fr (if gb (y.rd e f) b = true then x.val (A.rd e f) H else undef) f) H Q
 | .wcons d none x t m, e, f, H, Q => x.wp P (A.rd e f) H (fun v H' => Keep W H H' /\ tvk P W t (d.env v e) (d.fr v f) H' Q) /\ tvk P W m e f H Q
 | .wcons d (some (y, b)) x t m, e, f, H, Q => ((gb (y.rd e f) b = true -> x.wp P (A.rd e f) H (fun v H' => Keep W H H' /\ tvk P W t (d.env v e) (d.fr v f) H' Q)) ∧
   (gb (y.rd e f) b = false -> tvk P W t (d.env undef e) (d.fr undef f) H Q)) /\ tvk P W m e f H Q
 | .wnil, _, _, _, _ => True
theorem Keep.cell {W : Nat -> Prop} {H H' : Hp} (h : Keep W H H') {p : Addr} (h1 : p.block < H.size) (h2 : ¬ W p.block) : Mg.cell H' p = Mg.cell H p := by
 unfold Mg.cell; rw [h.at_ _ h1 h2]
theorem Keep.ldNA {W : Nat -> Prop} {H H' : Hp} (h : Keep W H H') {p : Addr} (h1 : p.block < H.size) (h2 : ¬ W p.block) (n : Nat) : Mg.ldNA H' p n = Mg.ldNA H p n := by
 unfold Mg.ldNA; rw [h.at_ _ h1 h2]
theorem Keep.bytesIn {W : Nat -> Prop} {H H' : Hp} (h : Keep W H H') {v : Value} {xs : Array Value} (h1 : Mg.bytesIn H v = some xs) (h2 : slS W v) : Mg.bytesIn H' v = some xs := by
 unfold Mg.bytesIn at *
 split at h1
 ·rename_i b n c
  by_cases e : n = 0
  ·rw [if_pos e] at h1 ⊢; exact h1
  ·rw [if_neg e] at h1 ⊢
   have hlt : b.block < H.size := by
    apply Decidable.byContradiction
    intro hn
    have hb : H[b.block]? = none := by simpa using hn
    simp [Mg.ldNA, hb] at h1
   rw [h.ldNA hlt (h2.resolve_left e) n]; exact h1
 ·exact h1
 ·cases h1
theorem Keep.mapIn {W : Nat -> Prop} {H H' : Hp} (h : Keep W H H') {v : Value} {es : List MapEntry} (h1 : Mg.mapIn H v = some es) (h2 : mapS W v) : Mg.mapIn H' v = some es := by
 unfold Mg.mapIn at *
 split at h1
 ·exact h1
 ·rename_i b
  have hlt : b < H.size := by
   apply Decidable.byContradiction
   intro hn
   have hb : H[b]? = none := by simpa using hn
   rw [hb] at h1; cases h1
  rw [h.at_ b hlt h2]; exact h1
 ·cases h1
theorem stabX_ok {W : Nat -> Prop} {H : Hp} {x : PX} {r : A -> Value} (h : stabX W x r H) :
  if x.free = true then x.pre r H else ∀ H', Keep W H H' -> x.pre r H' /\ x.val r H' = x.val r H := by
 unfold stabX at h
 split at h
 ·rename_i a
  obtain ⟨h1, h2⟩ := h
  simp only [PX.free, Bool.false_eq_true, if_false]
  intro H' hk
  unfold ldS at h1
  split at h1
  case h_2 => exact h1.elim
  rename_i p hp
  simp only [PX.pre, hp, ldO] at h2
  have hlt : p.block < H.size := by
   apply Decidable.byContradiction
   intro hn
   have hb : H[p.block]? = none := by simpa using hn
   simp [Mg.cell, hb] at h2
  have e : Mg.cell H' p = Mg.cell H p := hk.cell hlt h1
  simp only [PX.pre, PX.val, hp, ldO, e]
  exact ⟨h2, trivial⟩
 ·rename_i n a
  obtain ⟨h1, h2⟩ := h
  simp only [PX.free, PM.free, Bool.false_eq_true, if_false]
  intro H' hk
  unfold ldS at h1
  split at h1
  case h_2 => exact h1.elim
  rename_i p hp
  simp only [PX.pre, PM.pre, hp, ldNO] at h2
  have hlt : p.block < H.size := by
   apply Decidable.byContradiction
   intro hn
   have hb : H[p.block]? = none := by simpa using hn
   simp [Mg.ldNA, hb] at h2
  have e : Mg.ldNA H' p n = Mg.ldNA H p n := hk.ldNA hlt h1 n
  simp only [PX.pre, PX.val, PM.pre, PM.val, hp, ldNO, e]
  exact ⟨h2, trivial⟩
 ·rename_i a
  obtain ⟨h1, xs, h2, h3⟩ := h
  simp only [PX.free, PM.free, Bool.false_eq_true, if_false]
  intro H' hk
  have h4 := hk.bytesIn h2 h1
  simp only [PX.pre, PX.val, PM.pre, PM.val, okB2s, h2, h4]
  exact ⟨⟨xs, rfl, h3⟩, trivial⟩
 ·rename_i z ok m k
  obtain ⟨h1, h0, es, h2, h3⟩ := h
  simp only [PX.free, PM.free, Bool.false_eq_true, if_false]
  intro H' hk
  have h4 := hk.mapIn h2 h1
  simp only [PX.pre, PX.val, PM.pre, PM.val, h2, h4]
  exact ⟨⟨h0, es, rfl, h3⟩, trivial⟩
 ·rename_i kk z m k
  obtain ⟨h1, h0, es, h2, h3⟩ := h
  simp only [PX.free, PM.free, Bool.false_eq_true, if_false]
  intro H' hk
  have h4 := hk.mapIn h2 h1
  simp only [PX.pre, PX.val, PM.pre, PM.val, h2, h4]
  exact ⟨⟨h0, es, rfl, h3⟩, trivial⟩
 ·split at h
  ·rename_i hf; rw [if_pos hf]; exact h
  ·exact h.elim
theorem tvc_of_tvk {P : Program} {W : Nat -> Prop} : ∀ (t : T) (e : Env) (f : Fr) (H : Hp) (Q : Fr -> Hp -> Prop), tvk P W t e f H Q -> tvc P (Keep W H) t e f H Q
 | .done, _, _, _, _, h => h
 | .wnil, _, _, _, _, _ => trivial
 | .px d none x t, e, f, H, Q, h => ⟨stabX_ok h.1, tvc_of_tvk t _ _ _ _ h.2⟩
 | .px d (some (y, b)) x t, e, f, H, Q, h => ⟨fun g => stabX_ok (h.1 g), tvc_of_tvk t _ _ _ _ h.2⟩
 | .wcons d none x t m, e, f, H, Q, h => ⟨EX.wp_mono (fun v H' q => ⟨Keep W H', fun _ k => q.1.trans k, Keep.refl _ _, tvc_of_tvk t _ _ _ _ q.2⟩) h.1, tvc_of_tvk m _ _ _ _ h.2⟩
 | .wcons d (some (y, b)) x t m, e, f, H, Q, h => ⟨⟨fun g => EX.wp_mono (fun v H' q => ⟨Keep W H', fun _ k => q.1.trans k, Keep.refl _ _, tvc_of_tvk t _ _ _ _ q.2⟩) (h.1.1 g), fun g => tvc_of_tvk t _ _ _ _ (h.1.2 g)⟩, tvc_of_tvk m _ _ _ _ h.2⟩
theorem vc_drk {P : Program} {t : T} {Q} {f : Fr} {H : Hp} (W : Nat -> Prop) (h : tvk P W t [] f H (Q .n)) : vc P (.dr t) Q f H :=
 ⟨Keep W H, Keep.refl _ _, tvc_of_tvk t _ _ _ _ h⟩
section
variable (P : Program) (W : Nat -> Prop)
@[go_sem] theorem stabX_ld (a : A) (r : A -> Value) (H : Hp) : stabX W (.ld a) r H = (ldS W (r a) /\ PX.pre (.ld a) r H) := rfl
@[go_sem] theorem stabX_ldn (n : Nat) (a : A) (r : A -> Value) (H : Hp) : stabX W (.m (.ldn n a)) r H = (ldS W (r a) /\ PX.pre (.m (.ldn n a)) r H) := rfl
@[go_sem] theorem stabX_b2s (a : A) (r : A -> Value) (H : Hp) : stabX W (.m (.b2s a)) r H = (slS W (r a) /\ PX.pre (.m (.b2s a)) r H) := rfl
@[go_sem] theorem stabX_lks (z : Value) (ok : Bool) (a b : A) (r : A -> Value) (H : Hp) : stabX W (.m (.lks z ok a b)) r H = (mapS W (r a) /\ PX.pre (.m (.lks z ok a b)) r H) := rfl
@[go_sem] theorem slS_none (v : Value) : slS (fun _ => False) v := by unfold slS; split <;> simp
@[go_sem] theorem mapS_none (v : Value) : mapS (fun _ => False) v := by unfold mapS; split <;> simp
@[go_sem] theorem ldS_ptr (p : Addr) : ldS W (.pointer (some p)) = (¬ W p.block) := rfl
@[go_sem] theorem tvk_done (e : Env) (f : Fr) (H : Hp) (Q) : tvk P W .done e f H Q = Q f H := rfl
@[go_sem] theorem tvk_wnil (e : Env) (f : Fr) (H : Hp) (Q) : tvk P W .wnil e f H Q = True := rfl
@[go_sem] theorem tvk_px (d : D) (x : PX) (t : T) (e : Env) (f : Fr) (H : Hp) (Q) :
  tvk P W (.px d none x t) e f H Q = (stabX W x (A.rd e f) H /\ tvk P W t (d.env (x.val (A.rd e f) H) e) (d.fr (x.val (A.rd e f) H) f) H Q) := rfl
@[go_sem] theorem tvk_pxg (d : D) (y : A) (b : Bool) (x : PX) (t : T) (e : Env) (f : Fr) (H : Hp) (Q) :
  tvk P W (.px d (some (y, b)) x t) e f H Q = ((gb (y.rd e f) b = true -> stabX W x (A.rd e f) H) ∧
   tvk P W t (d.env (if gb (y.rd e f) b = true then x.val (A.rd e f) H else undef) e) (d.fr (if gb (y.rd e f) b = true then x.val (A.rd e f) H else undef) f) H Q) := rfl
def kontK (P : Program) (W : Nat -> Prop) (H0 : Hp) (d : D) (t : T) (e : Env) (f : Fr) (Q : Fr -> Hp -> Prop) (v : Value) (H : Hp) : Prop := Keep W H0 H /\ tvk P W t (d.env v e) (d.fr v f) H Q
@[go_sem] theorem kontK_eq (H0 : Hp) (d : D) (t : T) (e : Env) (f : Fr) (Q) (v : Value) (H : Hp) : kontK P W H0 d t e f Q v H = (Keep W H0 H /\ tvk P W t (d.env v e) (d.fr v f) H Q) := rfl
@[go_sem] theorem tvk_w (d : D) (x : EX) (t m : T) (e : Env) (f : Fr) (H : Hp) (Q) :
  tvk P W (.wcons d none x t m) e f H Q = (x.wp P (A.rd e f) H (kontK P W H d t e f Q) /\ tvk P W m e f H Q) := rfl
@[go_sem] theorem tvk_wg (d : D) (y : A) (b : Bool) (x : EX) (t m : T) (e : Env) (f : Fr) (H : Hp) (Q) :
  tvk P W (.wcons d (some (y, b)) x t m) e f H Q = (((gb (y.rd e f) b = true -> x.wp P (A.rd e f) H (kontK P W H d t e f Q)) /\ (gb (y.rd e f) b = false -> tvk P W t (d.env undef e) (d.fr undef f) H Q)) /\ tvk P W m e f H Q) := rfl
end
@[go_sem] theorem stabX_lki (P : Program) (W : Nat -> Prop) (kk : IntKind) (z : Value) (a b : A) (r : A -> Value) (H : Hp) : stabX W (.m (.lki kk z a b)) r H = (mapS W (r a) /\ PX.pre (.m (.lki kk z a b)) r H) := rfl
attribute [go_sem] stabX
def stabC (C : Hp -> Prop) (x : PX) (r : A -> Value) (H : Hp) : Prop := if x.free = true then x.pre r H else ∀ H', C H' -> x.pre r H' /\ x.val r H' = x.val r H
def tvq (P : Program) (C : Hp -> Prop) : T -> Env -> Fr -> Hp -> (Fr -> Hp -> Prop) -> Prop
 | .done, _, f, H, Q => Q f H
 | .px d none x t, e, f, H, Q => stabC C x (A.rd e f) H /\ tvq P C t (d.env (x.val (A.rd e f) H) e) (d.fr (x.val (A.rd e f) H) f) H Q
 | .px d (some (y, b)) x t, e, f, H, Q => (gb (y.rd e f) b = true -> stabC C x (A.rd e f) H) ∧
   tvq P C t (d.env (if gb (y.rd e f) b = true then x.val (A.rd e f) H else undef) e) (d.fr (if gb (y.rd e f) b = true then x.val (A.rd e f) H else undef) f) H Q
 | .wcons d none x t m, e, f, H, Q => x.wp P (A.rd e f) H (fun v H' => C H' /\ tvq P C t (d.env v e) (d.fr v f) H' Q) /\ tvq P C m e f H Q
 | .wcons d (some (y, b)) x t m, e, f, H, Q => ((gb (y.rd e f) b = true -> x.wp P (A.rd e f) H (fun v H' => C H' /\ tvq P C t (d.env v e) (d.fr v f) H' Q)) ∧
   (gb (y.rd e f) b = false -> tvq P C t (d.env undef e) (d.fr undef f) H Q)) /\ tvq P C m e f H Q
 | .wnil, _, _, _, _ => True
theorem tvc_of_tvq {P : Program} {C : Hp -> Prop} : ∀ (t : T) (e : Env) (f : Fr) (H : Hp) (Q : Fr -> Hp -> Prop), tvq P C t e f H Q -> tvc P C t e f H Q
 | .done, _, _, _, _, h => h
 | .wnil, _, _, _, _, _ => trivial
 | .px d none x t, e, f, H, Q, h => ⟨h.1, tvc_of_tvq t _ _ _ _ h.2⟩
 | .px d (some (y, b)) x t, e, f, H, Q, h => ⟨h.1, tvc_of_tvq t _ _ _ _ h.2⟩
 | .wcons d none x t m, e, f, H, Q, h => ⟨EX.wp_mono (fun v H' q => ⟨C, fun _ k => k, q.1, tvc_of_tvq t _ _ _ _ q.2⟩) h.1, tvc_of_tvq m _ _ _ _ h.2⟩
 | .wcons d (some (y, b)) x t m, e, f, H, Q, h => ⟨⟨fun g => EX.wp_mono (fun v H' q => ⟨C, fun _ k => k, q.1, tvc_of_tvq t _ _ _ _ q.2⟩) (h.1.1 g), fun g => tvc_of_tvq t _ _ _ _ (h.1.2 g)⟩, tvc_of_tvq m _ _ _ _ h.2⟩
theorem vc_drc {P : Program} {t : T} {Q} {f : Fr} {H : Hp} (C : Hp -> Prop) (hC : C H) (h : tvq P C t [] f H (Q .n)) : vc P (.dr t) Q f H :=
 ⟨C, hC, tvc_of_tvq t _ _ _ _ h⟩
section
variable (P : Program) (C : Hp -> Prop)
@[go_sem] theorem tvq_done (e : Env) (f : Fr) (H : Hp) (Q) : tvq P C .done e f H Q = Q f H := rfl
@[go_sem] theorem tvq_wnil (e : Env) (f : Fr) (H : Hp) (Q) : tvq P C .wnil e f H Q = True := rfl
@[go_sem] theorem tvq_px (d : D) (x : PX) (t : T) (e : Env) (f : Fr) (H : Hp) (Q) :
  tvq P C (.px d none x t) e f H Q = (stabC C x (A.rd e f) H /\ tvq P C t (d.env (x.val (A.rd e f) H) e) (d.fr (x.val (A.rd e f) H) f) H Q) := rfl
@[go_sem] theorem tvq_pxg (d : D) (y : A) (b : Bool) (x : PX) (t : T) (e : Env) (f : Fr) (H : Hp) (Q) :
  tvq P C (.px d (some (y, b)) x t) e f H Q = ((gb (y.rd e f) b = true -> stabC C x (A.rd e f) H) ∧
   tvq P C t (d.env (if gb (y.rd e f) b = true then x.val (A.rd e f) H else undef) e) (d.fr (if gb (y.rd e f) b = true then x.val (A.rd e f) H else undef) f) H Q) := rfl
def kontC (P : Program) (C : Hp -> Prop) (d : D) (t : T) (e : Env) (f : Fr) (Q : Fr -> Hp -> Prop) (v : Value) (H : Hp) : Prop := C H /\ tvq P C t (d.env v e) (d.fr v f) H Q
@[go_sem] theorem kontC_eq (d : D) (t : T) (e : Env) (f : Fr) (Q) (v : Value) (H : Hp) : kontC P C d t e f Q v H = (C H /\ tvq P C t (d.env v e) (d.fr v f) H Q) := rfl
@[go_sem] theorem tvq_w (d : D) (x : EX) (t m : T) (e : Env) (f : Fr) (H : Hp) (Q) :
  tvq P C (.wcons d none x t m) e f H Q = (x.wp P (A.rd e f) H (kontC P C d t e f Q) /\ tvq P C m e f H Q) := rfl
@[go_sem] theorem tvq_wg (d : D) (y : A) (b : Bool) (x : EX) (t m : T) (e : Env) (f : Fr) (H : Hp) (Q) :
  tvq P C (.wcons d (some (y, b)) x t m) e f H Q = (((gb (y.rd e f) b = true -> x.wp P (A.rd e f) H (kontC P C d t e f Q)) /\ (gb (y.rd e f) b = false -> tvq P C t (d.env undef e) (d.fr undef f) H Q)) /\ tvq P C m e f H Q) := rfl
end
end Go.Mg
