/- Part of the proof of FlowPrintsCardSaid: a lemma text of ours, over the kit alone. No conditions. -/
import Derived.Test.YtgbbplbmbapejaaGreatDoorMgVc
import Derived.OrdersHeld
set_option linter.all false
namespace Go.Mg
open Go Go.RowKit
structure Rel (D : List Deferred) (L : List Nat) (n : Nat) (a : Act) (f : Fr) : Prop where
 d : a.defers = D
 s : a.tmps.size = n
 l : ∀ t, L.contains t = true -> a.tmps.getD t undef = f t
structure RelE (D : List Deferred) (L : List Nat) (n : Nat) (ks : List Nat) (e : Env) (a : Act) (f : Fr) : Prop extends Rel D L n a f where
 e : ∀ t, L.contains t = false -> ks.contains t = true -> a.tmps.getD t undef = look e t
theorem getD_put (a : Act) (d : Nat) (hd : d < a.tmps.size) (x : Value) (t : Nat) : (a.put (some d) x).tmps.getD t undef = if t = d then x else a.tmps.getD t undef := by
 simp only [Act.put, Array.getD_eq_getD_getElem?, Array.getElem?_setIfInBounds]
 by_cases h : t = d
 ·subst h; simp [hd]
 ·rw [if_neg (fun e => h e.symm), if_neg h]
theorem RelE.put {D : List Deferred} {L : List Nat} {n : Nat} {ks : List Nat} {e : Env} {a : Act} {f : Fr} (h : RelE D L n ks e a f) {o : Option Tmp} {d : Mg.D} (hd : trD L n o = some d) (x : Value) :
  RelE D L n (d.more ks) (d.env x e) (a.put o x) (d.fr x f) := by
 cases o with
 | none => cases hd; exact h
 | some t =>
  simp only [trD] at hd
  split at hd
  case isFalse => cases hd
  rename_i ht
  have hs : t < a.tmps.size := by rw [h.s]; exact ht
  have hput := getD_put a t hs x
  split at hd <;> cases hd <;> rename_i hc
  ·refine ⟨⟨h.d, by simp [Act.put, h.s], fun u hu => ?_⟩, fun u hu hk => ?_⟩
   ·rw [hput]; simp only [Mg.D.fr, upd]; split
    ·rfl
    ·exact h.l u hu
   ·rw [hput, if_neg (by rintro rfl; rw [hc] at hu; cases hu)]
    exact h.e u hu hk
  ·refine ⟨⟨h.d, by simp [Act.put, h.s], fun u hu => ?_⟩, fun u hu hk => ?_⟩
   ·rw [hput, if_neg (by rintro rfl; exact hc hu)]; exact h.l u hu
   ·rw [hput]; simp only [Mg.D.env, look]; split
    ·rfl
    ·rename_i hne
     refine h.e u hu ?_
     simp only [Mg.D.more, List.contains_cons, Bool.or_eq_true, beq_iff_eq] at hk
     exact hk.resolve_left hne
theorem RelE.rd {D : List Deferred} {L : List Nat} {n : Nat} {ks : List Nat} {e : Env} {a : Act} {f : Fr} (h : RelE D L n ks e a f) : ∀ y z, trA L ks y = some z -> a.eval y = z.rd e f := by
 intro y z hz
 cases y <;> simp only [trA] at hz
 case tmp t =>
  split at hz
  ·rename_i hc; cases hz; exact h.l t hc
  ·rename_i hc; split at hz
   ·rename_i hk; cases hz; exact h.e t (by simpa using hc) hk
   ·cases hz
 all_goals (cases hz; rfl)
theorem RelE.gb {D : List Deferred} {L : List Nat} {n : Nat} {ks : List Nat} {e : Env} {a : Act} {f : Fr} (h : RelE D L n ks e a f) {all : Array Oper} {o : Oper} {g : Option (A × Bool)} (hg : trG L ks all o.guard = some g) :
  Region.wanted o (yielded all a.tmps) = gOk g e f := by
 cases ho : o.guard with
 | none => rw [ho] at hg; cases hg; simp [Region.wanted, ho, gOk]
 | some p =>
  obtain ⟨j, b⟩ := p
  rw [ho] at hg
  simp only [trG] at hg
  split at hg
  case h_2 => cases hg
  rename_i t ht
  obtain ⟨x, hx, rfl⟩ := Option.map_eq_some_iff.1 hg
  have hv := h.rd _ _ hx
  simp only [Act.eval] at hv
  simp only [Region.wanted, ho, yielded, ht, Option.bind_some, gOk]
  rw [<- hv, Array.getD_eq_getD_getElem?]
  cases hq : a.tmps[t]? with
  | none => simp [Mg.gb, undef]
  | some v => cases v <;> simp [Mg.gb]
theorem trAs_map {tr : Operand -> Option A} {r : A -> Value} {ρ : Operand -> Value} (htr : ∀ y z, tr y = some z -> ρ y = r z) : ∀ {l : List Operand} {l' : List A}, trAs tr l = some l' -> l.map ρ = l'.map r
 | [], l', h => by cases h; rfl
 | x :: l, l', h => by
  simp only [trAs, bind, Option.bind_eq_some_iff] at h
  obtain ⟨z, hz, zs, hzs, h⟩ := h
  cases h
  simp [htr _ _ hz, trAs_map htr hzs]
theorem oneCell_cells {x : Value} (h : x.oneCell' = true) : x.cells = #[x] := by
 cases x <;> first | rfl | cases h
theorem add_zero' (p : Addr) : p.add 0 = p := by simp [Addr.add]
theorem storeVar_run {P : Program} {w : World} {t : TypeId} {p : Addr} {x : Value} (ht : P.cellsOf t = 1) (h1 : (cell w.heap p).isSome = true) (h2 : frz w.heap p = false) (h3 : x.oneCell' = true) :
  (storeVar t p x).run P w = .ok () (w.setCell p x) := by
 have hs := sizeOf_run P t (by omega) w
 simp only [storeVar, Sem.run_bind, hs, Result.andThen, ht, oneCell_cells h3]
 simp [storeCells, add_zero', store_run h1 h2 h3]
theorem fin_v' {P : Program} {w w' : World} {s : Sem Value} {v : Value} (h : s.run P w = .ok v w') : (do pure (.value (← s)) : Sem Next).run P w = .ok (.value v) w' := by
 simp only [Sem.run_bind, h, Result.andThen, Sem.run_pure]
theorem fin_u {P : Program} {w w' : World} {s : Sem Unit} (h : s.run P w = .ok () w') : (do s; pure .skip : Sem Next).run P w = .ok .skip w' := by
 simp only [Sem.run_bind, h, Result.andThen, Sem.run_pure]
theorem lenS_run {P : Program} {w : World} {v : Value} (h : isSl v \/ isS v) : (Builtin.lenOf v).run P w = .ok (lenS v) w := by
 cases v <;> first | rfl | (rcases h with h | h <;> exact h.elim)
theorem firstCells_run {P : Program} {w : World} {v : Value} {size n : Nat} {xs : Array Value} (h : srcN w.heap v (n * size) = some xs) (hs : isS v -> size = 1) : (Builtin.firstCells size n v).run P w = .ok xs w := by
 cases v with
 | slice a l c =>
  cases a with
  | none => cases h; rfl
  | some p =>
   simp only [srcN] at h
   simp only [Builtin.firstCells]
   split at h
   ·rename_i h0; cases h; rw [h0]; rfl
   ·exact ldN_run h
 | string s =>
  have := hs trivial
  subst this
  simp only [srcN, Nat.mul_one, Option.some.injEq] at h
  subst h
  rfl
 | _ => cases h
theorem put_run {P : Program} {w : World} {a : Option Addr} {off : Nat} {xs : Array Value} (h : okPut w.heap a off xs) :
  (do if let some p := a then storeCells (p.add off) xs.toList : Sem PUnit).run P w = .ok () { w with heap := putH w.heap a off xs } := by
 cases a with
 | none => rfl
 | some p =>
  simp only [okPut] at h
  obtain ⟨h1, h2⟩ := h
  simp only [putH]
  by_cases h0 : xs.size = 0
  ·rw [if_pos h0]
   have : xs = #[] := Array.eq_empty_of_size_eq_zero h0
   subst this
   rfl
  ·rw [if_neg h0]
   have h3 := h2.resolve_left h0
   exact stN_run (xs := xs.toList) (by simpa using h3) h1
theorem rep_zero (z : Array Value) (n : Nat) : Builtin.zeroCells z n = rep z (n * z.size) := rfl
theorem call_run {P : Program} {w : World} {f : FuncId} {args : Array Value} (hb : bodyOk P f = true) : (callFunc f args).run P w = .ok (.enter f args) w := by
 unfold bodyOk at hb
 split at hb
 ·rename_i fn hf
  simp only [Bool.and_eq_true, Bool.not_eq_true'] at hb
  have hb2 : fn.body.isNone = false := by
   have := hb.1
   cases hbb : fn.body <;> simp [hbb] at this ⊢
  simp only [callFunc, program, Sem.run_bind, Sem.run, Result.andThen, hf]
  rw [if_neg (by simp [hb.2]), if_neg (by simp [hb2])]
  rfl
 ·cases hb
theorem s2b_run {P : Program} {w : World} {src dst e : TypeId} {q : ByteArray} (hs : P.underlying src = some .string) (hd : P.underlying dst = some (.slice e)) (he : P.underlying e = some (.int .u8)) :
  (convert src dst (.string q)).run P w = .ok (.slice (some ⟨w.heap.size, 0, none⟩) q.size (grownCap w q.size 0 e))
   { w with heap := w.heap.push (.cells (byteCells q ++ Array.replicate (grownCap w q.size 0 e - q.size) (.int .u8 0)) e (grownCap w q.size 0 e, grownCap w q.size 0 e + 1)), drawn := w.drawn + 1 } := by
 have hc : q.size <= grownCap w q.size 0 e := by simp only [grownCap, Question.cut]; omega
 have hn : (bytesRow q (grownCap w q.size 0 e)).size = grownCap w q.size 0 e := by
  have h1 : (bytesRow q (grownCap w q.size 0 e)).size = q.data.size + (grownCap w q.size 0 e - q.size) := by simp [bytesRow]
  have h2 : q.data.size = q.size := rfl
  omega
 rw [run_bytes_of_string w src dst e q hs hd he, hn]
 rfl
theorem seq_parts {tr : Operand -> Option A} {size : Nat} : ∀ {parts : List (Nat × Operand)} {ps : List A} {k : Nat}, seqParts k parts = true -> trAs tr (parts.map (·.2)) = some ps →
  trParts tr (fun k => some (k * size, size)) parts = some (ps.zipIdx k |>.map fun p => (p.2 * size, size, p.1))
 | [], ps, k, _, h => by cases h; rfl
 | (i, x) :: l, ps, k, hs, h => by
  simp only [seqParts, Bool.and_eq_true, beq_iff_eq] at hs
  simp only [List.map_cons, trAs, bind, Option.bind_eq_some_iff] at h
  obtain ⟨z, hz, zs, hzs, h⟩ := h
  cases h
  have ih := seq_parts (size := size) hs.2 hzs
  obtain ⟨rfl, _⟩ := hs
  simp [trParts, hz, ih]
theorem seq_fill {r : A -> Value} {size : Nat} : ∀ {ps : List A} {k : Nat} {C : Array Value}, (∀ a ∈ ps, (r a).cells.size = size) -> C.size = (k + ps.length) * size →
  okFill r C.size (ps.zipIdx k |>.map fun p => (p.2 * size, size, p.1)) /\ fillV r C (ps.zipIdx k |>.map fun p => (p.2 * size, size, p.1)) = (C.toList.take (k * size) ++ ps.flatMap fun a => (r a).cells.toList).toArray
 | [], k, C, _, hC => by
  refine ⟨trivial, ?_⟩
  have : C.toList.length <= k * size := by simp at hC; simp; omega
  simp [fillV, List.take_of_length_le this]
 | a :: ps, k, C, h, hC => by
  have ha := h a (by simp)
  simp only [List.length_cons] at hC
  have e1 : (k + (ps.length + 1)) * size = k * size + size + ps.length * size := by
   rw [Nat.add_mul, Nat.add_mul]; omega
  have hl : k * size + (r a).cells.toList.length <= C.size := by simp [ha]; omega
  have hw : (wrA C (k * size) (r a).cells.toList).size = C.size := wrA_size hl
  obtain ⟨i1, i2⟩ := seq_fill (r := r) (size := size) (ps := ps) (k := k + 1) (C := wrA C (k * size) (r a).cells.toList) (fun b hb => h b (by simp [hb])) (by rw [hw, hC]; congr 1; omega)
  refine ⟨⟨ha, by simpa [ha] using hl, by rw [hw] at i1; exact i1⟩, ?_⟩
  simp only [List.zipIdx_cons, List.map_cons, fillV]
  rw [i2]
  congr 1
  have : (wrA C (k * size) (r a).cells.toList).toList.take ((k + 1) * size) = C.toList.take (k * size) ++ (r a).cells.toList := by
   have e2 : (k + 1) * size = k * size + size := by rw [Nat.add_mul]; omega
   have hk : (C.toList.take (k * size)).length = k * size := by simp; omega
   simp only [wrA]
   have e3 : (C.toList.take (k * size) ++ (r a).cells.toList).length = k * size + size := by simp [ha]; omega
   rw [e2, <- e3]
   exact List.take_left
  rw [this]; simp
theorem append_run {P : Program} {w : World} {t u e : TypeId} {ty : TypeId} {i : TypeInfo} {z : Value} {d : TypeDesc} {sv xv : Value} (hu : P.underlying t = some (.slice e)) (hi : P.info? e = some i) (hz : i.zero = some z) 
  (hud : P.underlying u = some d) (hd : d = .string \/ ∃ e', d = .slice e') (hsl : sv = .slice (adrV sv) (lenV sv) (capV sv)) (hx : isSl xv \/ isS xv) (hx1 : isS xv -> i.size = 1)
  (h3 : lenV sv + lenS xv <= maxLen) (h4 : (lenV sv + lenS xv) * i.bytes <= 140737488355328) {news : Array Value} (hnews : srcN w.heap xv (lenS xv * i.size) = some news) :
  (lenV sv + lenS xv <= capV sv -> okPut w.heap (adrV sv) (lenV sv * i.size) news →
   (Builtin.append_ #[t, u] ty #[sv, xv]).run P w = .ok (.slice (adrV sv) (lenV sv + lenS xv) (capV sv)) { w with heap := putH w.heap (adrV sv) (lenV sv * i.size) news }) ∧
  (capV sv < lenV sv + lenS xv -> ∀ olds, srcN w.heap sv (lenV sv * i.size) = some olds →
   (Builtin.append_ #[t, u] ty #[sv, xv]).run P w = .ok (.slice (some ⟨w.heap.size, 0, none⟩) (lenV sv + lenS xv) (grownCap w (lenV sv + lenS xv) (capV sv) e))
    { w with heap := w.heap.push (.cells (olds ++ news ++ rep z.cells ((grownCap w (lenV sv + lenS xv) (capV sv) e - (lenV sv + lenS xv)) * z.cells.size)) e), drawn := w.drawn + 1 }) := by
 have hz0 : ∀ w, (zeroValue e).run P w = .ok z w := fun w => by simp [zeroValue, typeInfo, program, Sem.run, hi, hz, Sem.run_bind, Result.andThen]
 have hce : P.cellsOf e = i.size := by simp [Program.cellsOf, hi]
 have hsz : ∀ w, (sizeOf e).run P w = .ok i.size w := fun w => by rw [sizeOf_run' P e (show (P.info? e).isSome = true by simp [hi]), hce]
 have hti : ∀ w, (typeInfo e).run P w = .ok i w := fun w => by simp [typeInfo, program, Sem.run, hi, Sem.run_bind, Result.andThen]
 generalize hav : adrV sv = ad at *; generalize hlv : lenV sv = ls at *; generalize hcv : capV sv = cs at *
 subst hsl
 have hmx : ¬ (((ls + lenS xv : Nat) : Int) > IntKind.i64.max) := by
  have : IntKind.i64.max = 9223372036854775807 := by decide
  unfold maxLen at h3; omega
 constructor
 ·intro hfit hput
  have hf := firstCells_run (P := P) (w := w) (size := i.size) (n := lenS xv) hnews hx1
  have hp := put_run (P := P) (w := w) hput
  rcases hd with rfl | ⟨e', rfl⟩
  all_goals
   simp only [Builtin.append_]
   simp only [List.getElem?_toArray, List.getElem?_cons_zero, List.getElem?_cons_succ]
   simp only [Sem.run_bind, run_underlying hu, Result.andThen, hsz, run_underlying hud, Sem.run_pure, Bool.false_eq_true, if_false, lenS_run hx, hfit, if_true, Bool.not_false, hf]
   cases ad with
   | none => rfl
   | some p =>
    simp only [Sem.run_bind, Result.andThen] at hp ⊢
    rw [hp]
    rfl
 ·intro hgrow olds holds
  have hn : ¬ (ls + lenS xv <= cs) := by omega
  have hf := firstCells_run (P := P) (w := { w with drawn := w.drawn + 1 }) (size := i.size) (n := lenS xv) hnews hx1
  have hfo := firstCells_run (P := P) (w := { w with drawn := w.drawn + 1 }) (v := .slice ad ls cs) (size := i.size) (n := ls) holds (fun h => h.elim)
  have hfit : ¬ (Builtin.nextslicecap (ls + lenS xv) cs * i.bytes > 2 ^ 48) := by
   have := growslice_fits hgrow h4
   have e48 : (2 ^ 48 : Nat) = 281474976710656 := by decide
   omega
  rcases hd with rfl | ⟨e', rfl⟩
  all_goals
   simp only [Builtin.append_]
   simp only [List.getElem?_toArray, List.getElem?_cons_zero, List.getElem?_cons_succ]
   simp only [Sem.run_bind, run_underlying hu, Result.andThen, hsz, run_underlying hud, Sem.run_pure, Bool.false_eq_true, if_false, lenS_run hx, hn, hmx, false_and, hti, hfit]
   simp only [choose, Sem.run, Question.forced, Bool.false_eq_true, if_false, run_askRoom, hfo, hf, Bool.not_false, if_true, hz0, newRow, newObj, Sem.run_bind, Result.andThen, Sem.run_pure]
   rfl
theorem ex_sound {P : Program} {o : Oper} {a : Act} {w : World} {tr : Operand -> Option A} {r : A -> Value} {x : EX} (hx : ex P tr o = some x) (htr : ∀ y z, tr y = some z -> a.eval y = r z)
  {K : Value -> Hp -> Prop} (h : x.wp P r w.heap K) : Does P o a w K := by
 intro next Q hn
 have skip : ∀ {w' : World}, (execOp a.eval o).run P w = .ok .skip w' -> K undef w'.heap -> Same w w' -> o.upon P a next Q ((execOp a.eval o).run P w) := by
  intro w' hrun hk hs; rw [hrun, Oper.upon_skip]; exact hn _ _ hk hs
 have value : ∀ {v : Value} {w' : World}, (execOp a.eval o).run P w = .ok (.value v) w' -> K v w'.heap -> Same w w' -> o.upon P a next Q ((execOp a.eval o).run P w) := by
  intro v w' hrun hk hs; rw [hrun, Oper.upon_value]; exact hn _ _ hk hs
 have enter : ∀ {f : FuncId} {args : Array Value}, (execOp a.eval o).run P w = .ok (.enter f args) w -> CallsM P f args w.heap K -> o.upon P a next Q ((execOp a.eval o).run P w) := by
  intro f args hrun hk; rw [hrun, Oper.upon_enter]
  exact (hk w rfl).mono fun e w' ⟨v, he, hk, hs⟩ => by subst he; exact hn _ _ hk hs
 unfold ex at hx
 split at hx
 ·-- store
  rename_i t y z hop
  obtain ⟨y', hy, hx⟩ := Option.bind_eq_some_iff.1 hx
  obtain ⟨z', hz, hx⟩ := Option.bind_eq_some_iff.1 hx
  have ey := htr _ _ hy
  have ez := htr _ _ hz
  split at hx
  ·rename_i hag
   cases hx
   obtain ⟨⟨h1, h2, h2'⟩, h3⟩ := h
   unfold okN at h1
   unfold stNH at h3
   split at h1
   case h_2 => exact h1.elim
   rename_i p hp
   rw [hp] at h3
   refine skip (w' := { w with heap := stNA w.heap p (r z').cells.toList }) ?_ h3 ⟨rfl, rfl, rfl⟩
   simp only [execOp, hop, ey, ez, hp]
   refine fin_u ?_
   have hs := sizeOf_run' P t (isAgg_aggr hag w).2 w
   simp only [Instr.storeAt, Instr.sureAddr, Sem.run_bind, Sem.run_pure, Result.andThen, storeVar, hs, h2, ne_eq, not_true_eq_false, if_false]
   exact stN_run (xs := (r z').cells.toList) (by simpa [h2] using h1) h2'
  ·split at hx
   case isFalse => cases hx
   rename_i hsz
   split at hx
   case isFalse => cases hx
   cases hx
   obtain ⟨⟨h1, h2⟩, h3⟩ := h
   unfold okSt at h1
   unfold stH at h3
   split at h1
   case h_2 => exact h1.elim
   rename_i p hp
   rw [hp] at h3
   refine skip (w' := w.setCell p (r z')) ?_ h3 ⟨rfl, rfl, rfl⟩
   simp only [execOp, hop, ey, ez, hp]
   refine fin_u ?_
   simp only [Instr.storeAt, Instr.sureAddr, Sem.run_bind, Sem.run_pure, Result.andThen]
   exact storeVar_run hsz h1.1 h1.2 h2
 ·-- alloc
  rename_i t hop
  split at hx
  case h_2 => cases hx
  rename_i z hz
  cases hx
  obtain ⟨i, hi, hz⟩ := Option.bind_eq_some_iff.1 hz
  refine value (v := .pointer (some ⟨w.heap.size, 0, none⟩)) (w' := { w with heap := w.heap.push (.cells z.cells t) }) ?_ h ⟨rfl, rfl, rfl⟩
  simp only [execOp, hop]
  refine fin_v' ?_
  simp [Instr.alloc, zeroValue, typeInfo, program, Sem.run, hi, hz, newVar, newRow, newObj, Sem.run_bind, Result.andThen]
 ·-- box
  rename_i t y hop
  obtain ⟨y', hy, rfl⟩ := Option.map_eq_some_iff.1 hx
  refine value (v := .pointer (some ⟨w.heap.size, 0, none⟩)) (w' := { w with heap := w.heap.push (.cells (r y').cells t) }) ?_ h ⟨rfl, rfl, rfl⟩
  simp only [execOp, hop, htr _ _ hy]
  refine fin_v' ?_
  simp [Instr.box, Sem.run, newVar, newRow, newObj, Result.andThen]
 ·-- buildSlice
  rename_i t len parts hop
  split at hx
  case h_2 => cases hx
  rename_i e hu
  obtain ⟨i, hi, hx⟩ := Option.bind_eq_some_iff.1 hx
  obtain ⟨z, hz, hx⟩ := Option.bind_eq_some_iff.1 hx
  split at hx
  ·rename_i h00
   cases hx
   obtain ⟨rfl, hpe⟩ := h00
   have hp0 : parts = #[] := by cases parts with | mk l => cases l <;> simp_all
   subst hp0
   refine value (v := .slice (some ⟨w.heap.size, 0, none⟩) 0 0) (w' := { w with heap := w.heap.push (.cells #[] e) }) ?_ h.2 ⟨rfl, rfl, rfl⟩
   simp only [execOp, hop]
   refine fin_v' ?_
   simp only [Instr.buildSlice, Sem.run_bind, run_underlying hu, Result.andThen, sizeOf_run' P e (show (P.info? e).isSome = true by simp [hi]), Nat.zero_mul, if_true]
   have e0 : Array.range 0 = #[] := rfl
   simp [newRow, newObj, Sem.run, Instr.fill, e0, Result.andThen]
  split at hx
  case isFalse => cases hx
  rename_i hlen
  have hsz : P.cellsOf e = i.size := by simp [Program.cellsOf, hi]
  have hzero : (zeroValue e).run P w = .ok z w := by simp [zeroValue, typeInfo, program, Sem.run, hi, hz, Sem.run_bind, Result.andThen]
  have core : ∀ (ps : List (Nat × Nat × A)), trParts tr (fun k => some (k * i.size, i.size)) parts.toList = some ps -> okFill r (rep z.cells (len * i.size)).size ps →
    (execOp a.eval o).run P w = .ok (.value (.slice (some ⟨w.heap.size, 0, none⟩) len len)) { w with heap := w.heap.push (.cells (fillV r (rep z.cells (len * i.size)) ps) e) } := by
   intro ps hps hok
   have hf := fill_run (rep z.cells (len * i.size)) hps htr hok
   simp only [execOp, hop]
   refine fin_v' ?_
   have h16 : ¬ (len * i.size > 2 ^ 24) := by have := hlen.1; omega
   have h0 : ¬ (len * i.size = 0) := by omega
   simp only [Instr.buildSlice, Sem.run_bind, run_underlying hu, Result.andThen, sizeOf_run' P e (by simp [hi]), hsz, h16, h0, if_false, hzero, Sem.run_pure, Array.toList_map]
   have e2 : (Array.range (len * i.size)).map (fun x => z.cells[x % z.cells.size]!) = rep z.cells (len * i.size) := rfl
   rw [e2, hf]
   simp [newRow, newObj, Sem.run]
  split at hx
  ·rename_i hseq
   simp only [Bool.and_eq_true, beq_iff_eq] at hseq
   obtain ⟨ps, hps, rfl⟩ := Option.map_eq_some_iff.1 hx
   obtain ⟨h1, h2⟩ := h
   have hpl : ps.length = len := by
    have := congrArg List.length (trAs_map htr hps)
    simp only [List.length_map] at this
    rw [<- this, Array.length_toList]; exact hseq.2
   obtain ⟨f1, f2⟩ := seq_fill (r := r) (size := i.size) (ps := ps) (k := 0) (C := rep z.cells (len * i.size)) h1 (by simp [rep, hpl])
   refine value (core _ (seq_parts hseq.1 hps) f1) ?_ ⟨rfl, rfl, rfl⟩
   rw [f2]
   simpa using h2
  ·obtain ⟨ps, hps, rfl⟩ := Option.map_eq_some_iff.1 hx
   exact value (core _ hps h.1) h.2 ⟨rfl, rfl, rfl⟩
 ·-- makeSlice
  rename_i t l c hop
  obtain ⟨l', hl, hx⟩ := Option.bind_eq_some_iff.1 hx
  obtain ⟨c', hc, hx⟩ := Option.bind_eq_some_iff.1 hx
  split at hx
  case h_2 => cases hx
  rename_i e hu
  obtain ⟨i, hi, hx⟩ := Option.bind_eq_some_iff.1 hx
  obtain ⟨z, hz, hx⟩ := Option.bind_eq_some_iff.1 hx
  cases hx
  obtain ⟨⟨h1, h2, h3, h4, h5, h6⟩, h7⟩ := h
  have hsz : P.cellsOf e = i.size := by simp [Program.cellsOf, hi]
  have hzero : (zeroValue e).run P w = .ok z w := by simp [zeroValue, typeInfo, program, Sem.run, hi, hz, Sem.run_bind, Result.andThen]
  refine value (v := .slice (some ⟨w.heap.size, 0, none⟩) (r l').i.toNat (r c').i.toNat) (w' := { w with heap := w.heap.push (.cells (rep z.cells ((r c').i.toNat * i.size)) e) }) ?_ h7 ⟨rfl, rfl, rfl⟩
  simp only [execOp, hop, htr _ _ hl, htr _ _ hc]
  refine fin_v' ?_
  obtain ⟨k, hk⟩ := isInt_spec h1
  obtain ⟨k', hk'⟩ := isInt_spec h2
  generalize (r l').i = m at *
  generalize (r c').i = n at *
  rw [hk, hk']
  unfold maxLen at h6
  have wm : IntKind.i64.wrap m = m := IntWalk.i64_in m ⟨by omega, by omega⟩
  have wn : IntKind.i64.wrap n = n := IntWalk.i64_in n ⟨by omega, by omega⟩
  have ti : (typeInfo e).run P w = .ok i w := by simp [typeInfo, program, Sem.run, hi, Sem.run_bind, Result.andThen]
  have t1 : (decide (n < 0) || decide ((i.bytes : Int) * n > 2 ^ 48)) = false := by
   have e48 : (2 ^ 48 : Int) = 281474976710656 := by decide
   simp only [Bool.or_eq_false_iff, decide_eq_false_iff_not, e48]
   omega
  have t2 : (decide (n < 0) || decide ((i.bytes : Int) * n > 2 ^ 48) || decide (m < 0) || decide (m > n)) = false := by
   rw [t1]
   simp only [Bool.false_or, Bool.or_eq_false_iff, decide_eq_false_iff_not]
   omega
  simp only [Instr.makeSlice, Sem.run_bind, run_underlying hu, Result.andThen, asInt, asIntOf, Sem.run_pure, ti, wm, wn, t2, Bool.false_eq_true, if_false]
  simp only [run_askRoom, sizeOf_run' P e (show (P.info? e).isSome = true by simp [hi]), hsz]
  by_cases hn0 : n.toNat * i.size = 0
  ·simp only [hn0, if_true, Sem.run_pure, newRow, newObj, Sem.run_bind, Sem.run, Result.andThen]
   have e0 : (Array.map (fun x => (#[] : Array Value)[x % (#[] : Array Value).size]!) (Array.range 0)) = rep z.cells 0 := by simp [rep]
   rw [e0]
   first | rfl | done
  ·simp only [hn0, if_false, hzero, Sem.run_pure, newRow, newObj, Sem.run_bind, Sem.run, Result.andThen]
   rfl
 ·-- convert
  rename_i s t y hop
  obtain ⟨y', hy, hx⟩ := Option.bind_eq_some_iff.1 hx
  split at hx
  ·rename_i e hs ht
   split at hx
   case h_2 => cases hx
   rename_i he
   cases hx
   obtain ⟨h1, h2⟩ := h
   have hst := isS_spec h1
   have hcap : (r y').s.size <= grownCap w (r y').s.size 0 e := by simp only [grownCap, Question.cut]; omega
   have hrun := s2b_run (P := P) (w := w) (q := (r y').s) hs ht he
   rw [<- hst] at hrun
   refine value (v := .slice (some ⟨w.heap.size, 0, none⟩) (r y').s.size (grownCap w (r y').s.size 0 e)) ?_ (h2 _ hcap) ⟨rfl, rfl, rfl⟩ (w' := { w with heap := w.heap.push (.cells (byteCells (r y').s ++ Array.replicate (grownCap w (r y').s.size 0 e - (r y').s.size) (.int .u8 0)) e (grownCap w (r y').s.size 0 e, grownCap w (r y').s.size 0 e + 1)), drawn := w.drawn + 1 })
   simp only [execOp, hop, htr _ _ hy]
   exact fin_v' hrun
  ·rename_i e0 e hs ht
   split at hx
   case isFalse => cases hx
   rename_i hst
   cases hx
   unfold isU8 at hst
   obtain ⟨rfl, hst⟩ := hst
   split at hst
   case h_2 => cases hst
   rename_i he
   obtain rfl : e0 = e := by rw [hs] at ht; injection ht with h; injection h
   simp only [EX.wp] at h
   split at h
   case h_2 => exact h.elim
   rename_i p l c hp
   refine value (v := r y') (w' := { w with heap := (match sizeB w.heap p.block with | some n => mkH w.heap p.block n | none => w.heap) }) ?_ ?_ ⟨rfl, rfl, rfl⟩
   ·simp only [execOp, hop, htr _ _ hy, hp]
    refine fin_v' ?_
    simp only [convert, Sem.run_bind, run_underlying hs, Result.andThen, beq_self_eq_true, run_underlying he, markStringish, shape, Sem.run]
    have hshape : w.shape? p.block = match w.heap[p.block]? with | some (.cells c T _) => some (T, c.size) | _ => none := rfl
    simp only [hshape, sizeB]
    cases hb : w.heap[p.block]? with
    | none => rfl
    | some ob =>
     cases ob with
     | cells c T z =>
      simp only [freeze, Sem.run, World.freeze]
      rw [if_neg (by decide)]
      rfl
     | _ => rfl
   ·split at h
    ·rename_i n hn'; simp only [hn']; exact h
    ·rename_i hn'; simp only [hn']; exact h
  ·cases hx
 ·-- call
  rename_i c hop
  unfold exCall at hx
  split at hx
  ·rename_i f hcal
   split at hx
   ·rename_i hb
    obtain ⟨l, hl, rfl⟩ := Option.map_eq_some_iff.1 hx
    refine enter (f := f) (args := (l.map r).toArray) ?_ h
    have hargs : c.args.map a.eval = (l.map r).toArray := by rw [<- trAs_map htr hl, <- List.map_toArray]
    simp only [execOp, hop, resolve, hcal, Act.eval, Deferred.ofValue, Sem.run_bind, Sem.run_pure, Result.andThen, invoke]
    have e : (#[] ++ c.args.map a.eval ++ #[] : Array Value) = (l.map r).toArray := by rw [hargs]; simp
    rw [e]
    exact call_run hb
   ·obtain ⟨l, hl, rfl⟩ := Option.map_eq_some_iff.1 hx
    obtain ⟨v, w1, hv, hs, hk⟩ := h w rfl
    refine value (v := v) (w' := w1) ?_ hk hs
    have hargs : c.args.map a.eval = (l.map r).toArray := by rw [<- trAs_map htr hl, <- List.map_toArray]
    simp only [execOp, hop, resolve, hcal, Act.eval, Deferred.ofValue, Sem.run_bind, Sem.run_pure, Result.andThen, invoke]
    have e : (#[] ++ c.args.map a.eval ++ #[] : Array Value) = (l.map r).toArray := by rw [hargs]; simp
    rw [e]
    exact hv
  ·rename_i f _ hcal
   obtain ⟨g, hg, hx⟩ := Option.bind_eq_some_iff.1 hx
   obtain ⟨l, hl, rfl⟩ := Option.map_eq_some_iff.1 hx
   simp only [EX.wp] at h
   split at h
   case h_2 => exact h.elim
   rename_i k fi ca hfv
   refine enter (f := k) (args := fi ++ (l.map r).toArray ++ ca) ?_ h.2
   have hargs : c.args.map a.eval = (l.map r).toArray := by rw [<- trAs_map htr hl, <- List.map_toArray]
   simp only [execOp, hop, resolve, hcal, htr _ _ hg, hfv, Deferred.ofValue, Sem.run_bind, Sem.run_pure, Result.andThen, invoke, hargs]
   exact call_run h.1
  ·-- append
   rename_i hcal
   split at hx
   case h_2 => cases hx
   rename_i sO xO t u hargs hts
   obtain ⟨s', hs, hx⟩ := Option.bind_eq_some_iff.1 hx
   obtain ⟨x', hxx, hx⟩ := Option.bind_eq_some_iff.1 hx
   split at hx
   case h_2 => cases hx
   rename_i e hu
   obtain ⟨i, hi, hx⟩ := Option.bind_eq_some_iff.1 hx
   obtain ⟨z, hz, hx⟩ := Option.bind_eq_some_iff.1 hx
   split at hx
   case isFalse => cases hx
   rename_i hzs
   have e1 : c.args = #[sO, xO] := by cases hc : c.args; rw [hc] at hargs; simpa using hargs
   have e2 : c.argTypes = #[t, u] := by cases hc : c.argTypes; rw [hc] at hts; simpa using hts
   have hxe : ∃ str, x = .app str e i.size i.bytes z.cells s' x' /\ (str = true -> i.size = 1) /\ ∃ d, P.underlying u = some d /\ (d = .string \/ ∃ e', d = .slice e') := by
    split at hx
    ·rename_i _ hu'; cases hx; exact ⟨_, rfl, (fun h => by cases h), _, hu', .inr ⟨_, rfl⟩⟩
    ·rename_i hu'
     split at hx
     ·rename_i h1; cases hx; exact ⟨_, rfl, (fun _ => h1), _, hu', .inl rfl⟩
     ·cases hx
    ·cases hx
   obtain ⟨str, rfl, hstr, d, hud, hd⟩ := hxe
   have hrun : ∀ {v : Value} {w' : World}, (Builtin.append_ #[t, u] o.type #[r s', r x']).run P w = .ok v w' -> (execOp a.eval o).run P w = .ok (.value v) w' := by
    intro v w' hr
    simp only [execOp, hop, resolve, hcal, Sem.run_bind, Sem.run_pure, Result.andThen, invoke, e1, e2]
    simp only [List.map_toArray, List.map_cons, List.map_nil, htr _ _ hs, htr _ _ hxx]
    exact fin_v' hr
   obtain ⟨⟨h1, h2, h3, h4⟩, news, hnews, hin, hout⟩ := h
   have hs2 : isSl (r x') \/ isS (r x') := by unfold srcOk at h2; split at h2 <;> simp [h2]
   have hs3 : isS (r x') -> i.size = 1 := by
    intro hS; refine hstr ?_
    cases str with
    | true => rfl
    | false => simp only [srcOk, Bool.false_eq_true, if_false] at h2; cases hv : r x' <;> rw [hv] at hS h2 <;> first | exact hS.elim | exact h2.elim
   have happ := append_run (P := P) (w := w) (ty := o.type) hu hi hz hud hd (isSl_spec h1) hs2 hs3 h3 h4 hnews
   by_cases hfit : lenV (r s') + lenS (r x') <= capV (r s')
   ·obtain ⟨g1, g2⟩ := hin hfit
    exact value (hrun (happ.1 hfit g1)) g2 ⟨rfl, rfl, rfl⟩
   ·obtain ⟨olds, g1, g2⟩ := hout (by omega)
    have := happ.2 (by omega) _ g1
    exact value (hrun this) (g2 _ (by simp only [grownCap, Question.cut]; omega)) ⟨rfl, rfl, rfl⟩
  ·-- copy
   rename_i hcal
   split at hx
   case h_2 => cases hx
   rename_i dO sO t u hargs hts
   obtain ⟨d', hd, hx⟩ := Option.bind_eq_some_iff.1 hx
   obtain ⟨s', hs, hx⟩ := Option.bind_eq_some_iff.1 hx
   split at hx
   case h_2 => cases hx
   rename_i e hu
   split at hx
   case isFalse => cases hx
   rename_i hi
   have e1 : c.args = #[dO, sO] := by cases hc : c.args; rw [hc] at hargs; simpa using hargs
   have e2 : c.argTypes = #[t, u] := by cases hc : c.argTypes; rw [hc] at hts; simpa using hts
   have hxe : ∃ str, x = .cpy str (P.cellsOf e) d' s' /\ (str = true -> P.cellsOf e = 1) := by
    split at hx
    ·cases hx; exact ⟨_, rfl, fun h => by cases h⟩
    ·split at hx
     ·rename_i h1; cases hx; exact ⟨_, rfl, fun _ => h1⟩
     ·cases hx
    ·cases hx
   obtain ⟨str, rfl, hstr⟩ := hxe
   obtain ⟨⟨h1, h2⟩, news, hnews, hp, hk⟩ := h
   have hs2 : isSl (r s') \/ isS (r s') := by unfold srcOk at h2; split at h2 <;> simp [h2]
   have hs3 : isS (r s') -> P.cellsOf e = 1 := by
    intro hS; refine hstr ?_
    cases str with
    | true => rfl
    | false => simp only [srcOk, Bool.false_eq_true, if_false] at h2; cases hv : r s' <;> rw [hv] at hS h2 <;> first | exact hS.elim | exact h2.elim
   refine value (v := .int .i64 (min (lenS (r s')) (lenV (r d')) : Nat)) (w' := { w with heap := putH w.heap (adrV (r d')) 0 news }) ?_ hk ⟨rfl, rfl, rfl⟩
   simp only [execOp, hop, resolve, hcal, Sem.run_bind, Sem.run_pure, Result.andThen, invoke, e1, e2]
   simp only [List.map_toArray, List.map_cons, List.map_nil, htr _ _ hd, htr _ _ hs]
   refine fin_v' ?_
   have hsl := isSl_spec h1
   generalize r d' = dv at *
   generalize hav : adrV dv = ad at *; generalize hlv : lenV dv = ld at *; generalize capV dv = cd at *
   subst hsl
   have hput := put_run (P := P) (w := w) hp
   have hfc := firstCells_run (P := P) (w := w) (size := P.cellsOf e) (n := min (lenS (r s')) ld) hnews hs3
   simp only [Builtin.copy_]
   simp only [List.getElem?_toArray, List.getElem?_cons_zero, List.getElem?_cons_succ]
   simp only [Sem.run_bind, run_underlying hu, Result.andThen, lenS_run hs2, sizeOf_run' P e hi]
   rw [show Nat.min (lenS (r s')) ld = min (lenS (r s')) ld from rfl, hfc]
   cases ad with
   | none => rfl
   | some p =>
    have e0 : p.add 0 = p := add_zero' p
    simp only [Sem.run_bind, Result.andThen, e0] at hput ⊢
    rw [hput]
    rfl
  ·-- clear
   rename_i hcal
   split at hx
   case h_2 => cases hx
   rename_i sO t hargs hts
   obtain ⟨s', hs, hx⟩ := Option.bind_eq_some_iff.1 hx
   split at hx
   case h_2 => cases hx
   rename_i e hu
   obtain ⟨i, hi, hx⟩ := Option.bind_eq_some_iff.1 hx
   obtain ⟨z, hz, hx⟩ := Option.bind_eq_some_iff.1 hx
   cases hx
   have e1 : c.args = #[sO] := by cases hc : c.args; rw [hc] at hargs; simpa using hargs
   have e2 : c.argTypes = #[t] := by cases hc : c.argTypes; rw [hc] at hts; simpa using hts
   have hzero : (zeroValue e).run P w = .ok z w := by simp [zeroValue, typeInfo, program, Sem.run, hi, hz, Sem.run_bind, Result.andThen]
   obtain ⟨h1, hp, hk⟩ := h
   refine value (v := .tuple #[]) (w' := { w with heap := putH w.heap (adrV (r s')) 0 (rep z.cells (lenV (r s') * z.cells.size)) }) ?_ hk ⟨rfl, rfl, rfl⟩
   simp only [execOp, hop, resolve, hcal, Sem.run_bind, Sem.run_pure, Result.andThen, invoke, e1, e2]
   simp only [List.map_toArray, List.map_cons, List.map_nil, htr _ _ hs]
   refine fin_v' ?_
   have hsl := isSl_spec h1
   generalize r s' = dv at *
   generalize hav : adrV dv = ad at *; generalize hlv : lenV dv = ld at *; generalize capV dv = cd at *
   subst hsl
   have hput := put_run (P := P) (w := w) hp
   simp only [Builtin.clear_]
   simp only [List.getElem?_toArray, List.getElem?_cons_zero]
   simp only [Sem.run_bind, run_underlying hu, Result.andThen]
   cases ad with
   | none => rfl
   | some p =>
    have e0 : p.add 0 = p := add_zero' p
    cases ld with
    | zero =>
     have : (rep z.cells (0 * z.cells.size)).size = 0 := by simp [rep]
     simp only [putH, this, if_true]
     rfl
    | succ n =>
     simp only [Sem.run_bind, Result.andThen, e0] at hput ⊢
     simp only [hzero, rep_zero]
     rw [hput]
     rfl
  ·cases hx
 ·-- an entry of a map
  rename_i t mO kO vO hop
  obtain ⟨m, hm, hx⟩ := Option.bind_eq_some_iff.1 hx
  obtain ⟨k, hk, hx⟩ := Option.bind_eq_some_iff.1 hx
  obtain ⟨v, hv, hx⟩ := Option.bind_eq_some_iff.1 hx
  split at hx
  case h_2 => cases hx
  rename_i q e hu
  split at hx
  case h_3 => cases hx
  case h_2 =>
   rename_i kk hq
   cases hx
   obtain ⟨h1, b, es, clock, h2, h3, h4, h5⟩ := h
   refine skip (w' := { w with heap := w.heap.setIfInBounds b (.map (updI es clock (r k) (r v)).1 (updI es clock (r k) (r v)).2) }) ?_ h5 ⟨rfl, rfl, rfl⟩
   simp only [execOp, hop, htr _ _ hm, htr _ _ hk, htr _ _ hv]
   refine fin_u ?_
   have hkv := isI_spec h1
   have hg : (getObj b).run P w = .ok (.map es clock) w := by simp [getObj, Sem.run, h3]
   obtain ⟨x, g1, g2, g3⟩ := findNow_int kk (r k).i es.toList 0 h4
   have hck : (Instr.checkKey false 10000 q (r k)).run P w = .ok () w := checkKey_int false hq 9999 _
   have hfk : (Instr.findKey q (r k) es.toList).run P w = .ok x w := by
    have g1' : Instr.findNow (.int kk) (r k) es.toList 0 = some x := by rw [hkv]; exact g1
    simp only [Instr.findKey, Sem.run_bind, run_underlying hq, Result.andThen, g1', Sem.run_pure]
   unfold Instr.mapUpdate updI
   rw [h2]
   simp only [Sem.run_bind, run_underlying hu, Result.andThen, hg, hck, hfk]
   cases x with
   | none =>
    have g4 : es.toList.findIdx? (fun e => (r k).i == e.key.i) = none := by
     cases hf : es.toList.findIdx? (fun e => (r k).i == e.key.i) with
     | none => rfl
     | some j => rw [hf] at g3; cases g3
    rw [g4]
    simp [setObj, Sem.run, h3]
   | some p =>
    obtain ⟨i, v0⟩ := p
    have g4 : es.toList.findIdx? (fun e => (r k).i == e.key.i) = some i := by
     cases hf : es.toList.findIdx? (fun e => (r k).i == e.key.i) with
     | none => rw [hf] at g3; cases g3
     | some j =>
      rw [hf] at g3
      simp only [Option.map_some, Option.some.injEq, Nat.add_zero] at g3
      rw [g3]
    rw [g4]
    obtain ⟨hlt, hp1, _⟩ := List.findIdx?_eq_some_iff_getElem.1 g4
    have hei : es[i]? = some es[i] := Array.getElem?_eq_getElem (by simpa using hlt)
    have hke : es[i].key = r k := by
     have h5' := h4 es[i] (by simp)
     rw [isI_spec h5', hkv]
     have : (r k).i == (es.toList[i]).key.i := hp1
     simp only [beq_iff_eq, Array.getElem_toList] at this
     rw [this]
    have hkt : (Instr.keyThatStays (((es[i]?).map (·.key)).getD (r k)) (r k)).run P w = .ok (r k) w := by
     rw [hei]
     simp only [Option.map_some, Option.getD_some, hke]
     unfold Instr.keyThatStays
     have hsb : Instr.sameBits 10000 (r k) (r k) = true := by rw [hkv]; simp [Instr.sameBits]
     rw [hsb]
     rfl
    simp only [Sem.run_bind, hkt, Result.andThen]
    simp [setObj, Sem.run, h3]
  rename_i hq
  cases hx
  obtain ⟨h1, b, es, clock, h2, h3, h4, h5⟩ := h
  refine skip (w' := { w with heap := w.heap.setIfInBounds b (.map (es.push { key := r k, val := r v, born := clock }) (clock + 1)) }) ?_ h5 ⟨rfl, rfl, rfl⟩
  simp only [execOp, hop, htr _ _ hm, htr _ _ hk, htr _ _ hv]
  refine fin_u ?_
  have hkv := isS_spec h1
  have hne : findE (r k).s es.toList = none := by
   unfold findE
   rw [Option.map_eq_none_iff, List.find?_eq_none]
   intro x hx
   have := (h4 x hx).2
   rw [this]; decide
  generalize r k = kv at *
  generalize kv.s = ks at *
  subst hkv
  obtain ⟨x, g1, g2⟩ := findNow_string ks es.toList 0 (fun e he => (h4 e he).1)
  rw [hne, Option.map_eq_none_iff] at g2
  subst g2
  have hg : (getObj b).run P w = .ok (.map es clock) w := by simp [getObj, Sem.run, h3]
  have hck : (Instr.checkKey false 10000 q (.string ks)).run P w = .ok () w := checkKey_string false hq 9999 _
  have hfk : (Instr.findKey q (.string ks) es.toList).run P w = .ok none w := by
   simp only [Instr.findKey, Sem.run_bind, run_underlying hq, Result.andThen, g1, Sem.run_pure]
  unfold Instr.mapUpdate
  rw [h2]
  simp only [Sem.run_bind, run_underlying hu, Result.andThen, hg, hck, hfk]
  simp [setObj, Sem.run, h3]
 ·-- a new map
  rename_i t hop
  cases hx
  refine value (v := .map (some w.heap.size)) (w' := { w with heap := w.heap.push (.map #[] 0) }) ?_ h ⟨rfl, rfl, rfl⟩
  simp only [execOp, hop]
  refine fin_v' ?_
  simp [Instr.makeMap, newObj, Sem.run, Result.andThen]
 ·-- a panic: never
  cases hx
  exact h.elim
 ·cases hx
theorem ops_sound {P : Program} {D : List Deferred} {L : List Nat} {n : Nat} {all : Array Oper} {w0 : World} {Q : Fr -> Hp -> Prop} {Q' : Exit -> Act -> World -> Prop}
  (hQ : ∀ f a w, Q f w.heap -> Rel D L n a f -> Same w0 w -> Q' .normal a w) :
  ∀ (l : List Oper) (ks : List Nat) (l' : List O) (e : Env) (f : Fr) (a : Act) (w : World), trOps P L n all l ks = some l' -> RelE D L n ks e a f -> Same w0 w -> ops P l' e f w.heap Q -> wpList P all Q' l a w := by
 intro l
 induction l with
 | nil =>
  intro ks l' e f a w hl hr hs h
  cases hl
  exact hQ f a w h hr.toRel hs
 | cons o l ih =>
  intro ks l' e f a w hl hr hs h
  simp only [trOps] at hl
  obtain ⟨d, hd, hl⟩ := Option.bind_eq_some_iff.1 hl
  obtain ⟨g, hg, hl⟩ := Option.bind_eq_some_iff.1 hl
  have hgb := hr.gb hg
  unfold wpList
  rw [hgb]
  split at hl
  ·rename_i x hx
   obtain ⟨l2, hl2, rfl⟩ := Option.map_eq_some_iff.1 hl
   obtain ⟨hp, h⟩ := h
   simp only [gOk, if_true]
   refine .inl ?_
   unfold Oper.wp
   rw [px_sound hx hr.rd (fun _ => rfl) hp, Oper.upon_value]
   exact ih _ _ _ _ _ _ hl2 (hr.put hd _) hs h
  ·rename_i x b hx
   obtain ⟨l2, hl2, rfl⟩ := Option.map_eq_some_iff.1 hl
   obtain ⟨hp, h⟩ := h
   by_cases hc : gOk (some (x, b)) e f = true
   ·have hc' : gb (x.rd e f) b = true := hc
    rw [if_pos hc'] at h
    rw [if_pos hc]
    refine .inl ?_
    unfold Oper.wp
    rw [px_sound hx hr.rd (fun _ => rfl) (hp hc), Oper.upon_value]
    exact ih _ _ _ _ _ _ hl2 (hr.put hd _) hs h
   ·have hc' : ¬ gb (x.rd e f) b = true := hc
    rw [if_neg hc'] at h
    rw [if_neg hc]
    exact ih _ _ _ _ _ _ hl2 (hr.put hd _) hs h
  ·obtain ⟨x, hx, hl⟩ := Option.bind_eq_some_iff.1 hl
   split at hl
   ·obtain ⟨l2, hl2, rfl⟩ := Option.map_eq_some_iff.1 hl
    simp only [gOk, if_true]
    refine .inl ?_
    exact ex_sound hx hr.rd h _ _ fun v w' hk hw => ih _ _ _ _ _ _ hl2 (hr.put hd _) (hs.trans hw) hk
   ·obtain ⟨l2, hl2, rfl⟩ := Option.map_eq_some_iff.1 hl
    obtain ⟨h1, h2⟩ := h
    rename_i ga gbb _ _ _
    by_cases hc : gOk (some (ga, gbb)) e f = true
    ·rw [if_pos hc]
     refine .inl ?_
     exact ex_sound hx hr.rd (h1 hc) _ _ fun v w' hk hw => ih _ _ _ _ _ _ hl2 (hr.put hd _) (hs.trans hw) hk
    ·rw [if_neg hc]
     exact ih _ _ _ _ _ _ hl2 (hr.put hd _) hs (h2 (by have hc' : ¬ gb (ga.rd e f) gbb = true := hc; simpa using hc'))
theorem ops_still {P : Program} {D : List Deferred} {L : List Nat} {n : Nat} {all : Array Oper} {w : World} {Q : Fr -> Hp -> Prop} {Q' : Act -> Prop} (k : Nat) :
  ∀ (l : List Oper) (ks : List Nat) (l' : List O) (e : Env) (f : Fr) (a : Act),
   (∀ (ks' : List Nat) (l2 : List O) (e' : Env) (f' : Fr) (a' : Act), trOps P L n all (l.drop k) ks' = some l2 -> RelE D L n ks' e' a' f' -> ops P l2 e' f' w.heap Q -> Q' a') →
   trOps P L n all l ks = some l' -> (l'.take k).all O.pure = true -> RelE D L n ks e a f -> ops P l' e f w.heap Q -> wpStill P all w Q' (l.take k) a := by
 induction k with
 | zero =>
  intro l ks l' e f a hQ hl _ hr h
  simp only [List.take_zero, wpStill]
  exact hQ _ _ _ _ _ (by simpa using hl) hr h
 | succ k ih =>
  intro l ks l' e f a hQ hl hp hr h
  cases l with
  | nil =>
   simp only [List.take_nil, wpStill]
   exact hQ _ _ _ _ _ (by simpa using hl) hr h
  | cons o l =>
   simp only [trOps] at hl
   obtain ⟨d, hd, hl⟩ := Option.bind_eq_some_iff.1 hl
   obtain ⟨g, hg, hl⟩ := Option.bind_eq_some_iff.1 hl
   have hgb := hr.gb hg
   simp only [List.take_succ_cons, List.drop_succ_cons, wpStill] at hQ ⊢
   rw [hgb]
   split at hl
   ·rename_i x hx
    obtain ⟨l2, hl2, rfl⟩ := Option.map_eq_some_iff.1 hl
    obtain ⟨hpre, h⟩ := h
    simp only [List.take_succ_cons, List.all_cons, Bool.and_eq_true] at hp
    simp only [gOk, if_true]
    unfold Oper.still
    rw [px_sound hx hr.rd (fun _ => rfl) hpre, Oper.stillUpon_value]
    exact ih _ _ _ _ _ _ hQ hl2 hp.2 (hr.put hd _) h
   ·rename_i x b hx
    obtain ⟨l2, hl2, rfl⟩ := Option.map_eq_some_iff.1 hl
    obtain ⟨hpre, h⟩ := h
    simp only [List.take_succ_cons, List.all_cons, Bool.and_eq_true] at hp
    by_cases hc : gOk (some (x, b)) e f = true
    ·have hc' : gb (x.rd e f) b = true := hc
     rw [if_pos hc'] at h
     rw [if_pos hc]
     unfold Oper.still
     rw [px_sound hx hr.rd (fun _ => rfl) (hpre hc), Oper.stillUpon_value]
     exact ih _ _ _ _ _ _ hQ hl2 hp.2 (hr.put hd _) h
    ·have hc' : ¬ gb (x.rd e f) b = true := hc
     rw [if_neg hc'] at h
     rw [if_neg hc]
     exact ih _ _ _ _ _ _ hQ hl2 hp.2 (hr.put hd _) h
   ·obtain ⟨x, hx, hl⟩ := Option.bind_eq_some_iff.1 hl
    split at hl
    ·obtain ⟨l2, hl2, rfl⟩ := Option.map_eq_some_iff.1 hl
     simp [List.take_succ_cons, O.pure] at hp
    ·obtain ⟨l2, hl2, rfl⟩ := Option.map_eq_some_iff.1 hl
     simp [List.take_succ_cons, O.pure] at hp
theorem PM.free_eq {q : PM} (h : q.free = true) (r : A -> Value) (H H' : Hp) : q.pre r H = q.pre r H' /\ q.val r H = q.val r H' := by
 cases q <;> first | exact ⟨rfl, rfl⟩ | cases h
theorem PX.free_eq {x : PX} (h : x.free = true) (r : A -> Value) (H H' : Hp) : x.pre r H = x.pre r H' /\ x.val r H = x.val r H' := by
 cases x <;> first | exact ⟨rfl, rfl⟩ | cases h | exact PM.free_eq h r H H'
theorem exq_sound {fl : Bool} {P : Program} {o : Oper} {a : Act} {w : World} {tr : Operand -> Option A} {r : A -> Value} {x : EX} (hx : exq fl P tr o = some x) (htr : ∀ y z, tr y = some z -> a.eval y = r z)
  {K : Value -> Hp -> Prop} (h : x.wp P r w.heap K) : Does P o a w K := by
 unfold exq at hx
 split at hx
 ·rename_i y hy
  cases hx
  exact ex_sound hy htr h
 ·split at hx
  case isFalse => cases hx
  obtain ⟨q, hq, rfl⟩ := Option.map_eq_some_iff.1 hx
  intro next Q hn
  rw [px_sound hq htr (fun _ => rfl) h.1, Oper.upon_value]
  exact hn _ _ h.2 (Same.refl w)
theorem wpAnyH_weak {P : Program} {md : Region.Mode} {all : Array Oper} {Q : Exit -> Act -> World -> Prop} {S S' : World -> Prop} (hS : ∀ w, S' w -> S w) : ∀ (k : Nat) (listed : Array Bool) (a : Act) (w : World), wpAnyH P md all Q S' k listed a w -> wpAnyH P md all Q S k listed a w
 | 0, _, _, _, h => h
 | k + 1, _, _, _, h => ⟨h.1, fun i hi => wpOp_mono (fun a' w' h' => ⟨hS _ h'.1, wpAnyH_weak hS k _ a' w' h'.2⟩) (h.2 i hi)⟩
theorem trT_sound {fl : Oper -> Bool} {P : Program} {D : List Deferred} {L : List Nat} {n : Nat} {all : Array Oper} (hsel : Region.noSelect all = true) {w0 : World} {Q : Fr -> Hp -> Prop} {Q' : Exit -> Act -> World -> Prop}
  (hQ : ∀ f a w, Q f w.heap -> Rel D L n a f -> Same w0 w -> Q' .normal a w) (hQp : ∀ c a w, ¬ Q' (.panic c) a w) :
  ∀ (k : Nat) (C : Hp -> Prop) (listed : Array Bool) (ks : List Nat) (t : T) (e : Env) (f : Fr) (a : Act) (w : World), trT fl P L n all k listed ks = some t -> RelE D L n ks e a f -> C w.heap -> Same w0 w -> tvc P C t e f w.heap Q →
   wpAnyH P .any all Q' (fun w => C w.heap /\ Same w0 w) k listed a w := by
 intro k
 induction k with
 | zero =>
  intro C listed ks t e f a w ht hr hC hs h
  simp only [trT] at ht
  split at ht
  ·rename_i h0; cases ht; exact ⟨h0, hQ f a w h hr.toRel hs⟩
  ·cases ht
 | succ k ih =>
  intro C listed ks t e f a w ht hr hC hs h
  simp only [trT] at ht
  split at ht
  ·rename_i h0; cases ht; exact wpAnyH_done h0 (hQ f a w h hr.toRel hs) _
  rename_i hne
  split at ht
  ·rename_i i hfind
   have hmem := List.mem_of_find?_eq_some hfind
   have hprop := List.find?_some hfind
   simp only [Bool.and_eq_true] at hprop
   obtain ⟨o, ho, ht⟩ := Option.bind_eq_some_iff.1 ht
   obtain ⟨d, hd, ht⟩ := Option.bind_eq_some_iff.1 ht
   obtain ⟨g, hg, ht⟩ := Option.bind_eq_some_iff.1 ht
   obtain ⟨x, hx, ht⟩ := Option.bind_eq_some_iff.1 ht
   obtain ⟨t', ht', rfl⟩ := Option.map_eq_some_iff.1 ht
   have hgb := hr.gb hg
   have stab : (if x.free = true then x.pre (A.rd e f) w.heap else ∀ H', C H' -> x.pre (A.rd e f) H' /\ x.val (A.rd e f) H' = x.val (A.rd e f) w.heap) →
     ∀ w' : World, C w'.heap /\ Same w0 w' -> (execOp a.eval o).run P w' = .ok (.value (x.val (A.rd e f) w.heap)) w' := by
    intro hst w' hw'
    split at hst
    ·rename_i hfree
     obtain ⟨p1, p2⟩ := PX.free_eq hfree (A.rd e f) w.heap w'.heap
     rw [p2]
     exact px_sound hx hr.rd (fun _ => rfl) (p1 ▸ hst)
    ·obtain ⟨p1, p2⟩ := hst w'.heap hw'.1
     rw [<- p2]
     exact px_sound hx hr.rd (fun _ => rfl) p1
   have go : ∀ v, YieldsIf P all (fun w => C w.heap /\ Same w0 w) o v a -> tvc P C t' (d.env v e) (d.fr v f) w.heap Q -> wpAnyH P .any all Q' (fun w => C w.heap /\ Same w0 w) (k + 1) listed a w := by
    intro v hy hv
    exact wpAnyH_take ho hsel hprop.1 (by simpa using hmem) (fun c a w hp => (hQp _ _ _ hp).elim) hy ⟨hC, hs⟩ (ih _ _ _ _ _ _ _ _ ht' (hr.put hd v) hC hs hv)
   cases g with
   | none =>
    obtain ⟨h1, h2⟩ := h
    exact go _ (.inl ⟨hgb, stab h1⟩) h2
   | some p =>
    obtain ⟨y, b⟩ := p
    obtain ⟨h1, h2⟩ := h
    by_cases hc : gb (y.rd e f) b = true
    ·rw [if_pos hc] at h2
     exact go _ (.inl ⟨hgb.trans hc, stab (h1 hc)⟩) h2
    ·rw [if_neg hc] at h2
     exact go _ (.inr ⟨hgb.trans (by simpa [gOk] using hc), rfl⟩) h2
  ·rename_i hfn
   refine wpAnyH_all rfl hne ?_
   clear hfn
   generalize Region.ready .any all listed = rs at *
   clear hne
   induction rs generalizing t with
   | nil => intro i hi; cases hi
   | cons j rs ihr =>
    simp only [List.foldr_cons] at ht
    obtain ⟨m, hm, ht⟩ := Option.bind_eq_some_iff.1 ht
    obtain ⟨o, ho, ht⟩ := Option.bind_eq_some_iff.1 ht
    obtain ⟨d, hd, ht⟩ := Option.bind_eq_some_iff.1 ht
    obtain ⟨g, hg, ht⟩ := Option.bind_eq_some_iff.1 ht
    obtain ⟨x, hx, ht⟩ := Option.bind_eq_some_iff.1 ht
    obtain ⟨t', ht', rfl⟩ := Option.map_eq_some_iff.1 ht
    have hgb := hr.gb hg
    have hm2 : tvc P C m e f w.heap Q := by
     cases g with
     | none => exact h.2
     | some p => exact h.2
    intro i hi
    rcases List.mem_cons.1 hi with rfl | hi
    ·unfold wpOp
     simp only [ho]
     have run : (x.wp P (A.rd e f) w.heap fun v H' => ∃ C' : Hp -> Prop, (∀ K, C' K -> C K) /\ C' H' /\ tvc P C' t' (d.env v e) (d.fr v f) H' Q) →
       o.wp P a w (fun a' w' => (C w'.heap /\ Same w0 w') /\ wpAnyH P .any all Q' (fun w => C w.heap /\ Same w0 w) k (listed.setIfInBounds i true) a' w') Q' := by
      intro hwp
      exact exq_sound hx hr.rd hwp _ _ fun v w' ⟨C', hk, hk1, hk2⟩ hw => ⟨⟨hk _ hk1, hs.trans hw⟩, wpAnyH_weak (fun w q => ⟨hk _ q.1, q.2⟩) _ _ _ _ (ih C' _ _ _ _ _ _ _ ht' (hr.put hd v) hk1 (hs.trans hw) hk2)⟩
     cases g with
     | none =>
      rw [if_pos (show _ = true from hgb)]
      exact .inl (run h.1)
     | some p =>
      obtain ⟨y, b⟩ := p
      by_cases hc : gb (y.rd e f) b = true
      ·rw [if_pos (show _ = true from hgb.trans hc)]
       exact .inl (run (h.1.1 hc))
      ·have hc' : gOk (some (y, b)) e f = false := by simpa [gOk] using hc
       rw [if_neg (by rw [hgb, hc']; simp)]
       exact ⟨⟨hC, hs⟩, ih _ _ _ _ _ _ _ _ ht' (hr.put hd undef) hC hs (h.1.2 (by simpa using hc))⟩
    ·exact ihr _ hm2 hm i hi
def liftQ (D : List Deferred) (L : List Nat) (n : Nat) (w0 : World) (Q : Ex -> Fr -> Hp -> Prop) : Exit -> Act -> World -> Prop := fun e a w => ∃ e' f, e = e'.to /\ Q e' f w.heap /\ Rel D L n a f /\ Same w0 w
theorem liftQ_mono {D : List Deferred} {L : List Nat} {n : Nat} {w0 w1 : World} {Q : Ex -> Fr -> Hp -> Prop} (hs : Same w0 w1) {e : Exit} {a : Act} {w : World} (h : liftQ D L n w1 Q e a w) : liftQ D L n w0 Q e a w :=
 let ⟨e', f, he, hq, hr, hs'⟩ := h; ⟨e', f, he, hq, hr, hs.trans hs'⟩
theorem drew_same (w : World) : Same w { w with drawn := w.drawn + 1 } := ⟨rfl, rfl, rfl⟩
theorem vc_sound {P : Program} (hmix : P.follows .mixedOrders = true) {D : List Deferred} {L : List Nat} {n : Nat} : ∀ (c : Code) (s : S), trans P L n c = some s -> ∀ (Q : Ex -> Fr -> Hp -> Prop) (f : Fr) (a : Act) (w : World), vc P s Q f w.heap -> Rel D L n a f →
  c.wp P (liftQ D L n w Q) a w := by
 intro c
 induction c with
 | skip =>
  intro s hs Q f a w h hr
  cases hs
  exact wp_skip ⟨.n, f, rfl, h, hr, Same.refl w⟩
 | region id all draw =>
  intro s hs Q f a w h hr
  simp only [trans] at hs
  have hrE : RelE D L n [] [] a f := ⟨hr, fun t _ h => by simp at h⟩
  cases draw with
  | false =>
   simp only [Bool.false_eq_true, if_false] at hs
   obtain ⟨l, hl, rfl⟩ := Option.map_eq_some_iff.1 hs
   refine wp_region_list ?_
   exact ops_sound (w0 := w) (Q := Q .n) (fun f' a' w' hq hr' hs' => ⟨.n, f', rfl, hq, hr', hs'⟩) _ _ _ _ _ _ _ hl hrE (Same.refl w) h
  | true =>
   simp only [if_true, trDr] at hs
   split at hs
   ·rename_i s' hs'
    cases hs
    obtain ⟨l, hl, hs'⟩ := Option.bind_eq_some_iff.1 hs'
    split at hs'
    case isFalse => cases hs'
    rename_i hin
    cases hs'
    have h' : ops P l [] f ({ w with drawn := w.drawn + 1 } : World).heap (Q .n) := h
    simp only [inText, Bool.or_eq_true, Bool.and_eq_true] at hin
    rcases hin with ⟨hB, hp⟩ | hB
    ·refine wp_region_still hmix hB ?_
     have := ops_still (P := P) (D := D) (L := L) (n := n) (all := all) (w := { w with drawn := w.drawn + 1 }) (Q := Q .n) (Q' := fun a' => liftQ D L n w Q .normal a' { w with drawn := w.drawn + 1 }) (max all.toList.length l.length) all.toList [] l [] f a ?_ hl ?_ hrE h'
     ·rwa [List.take_of_length_le (Nat.le_max_left _ _)] at this
     ·intro ks' l2 e' f' a' h1 h2 h3
      rw [List.drop_eq_nil_of_le (Nat.le_max_left _ _)] at h1
      cases h1
      exact ⟨.n, f', rfl, h3, h2.toRel, drew_same w⟩
     ·rwa [List.take_of_length_le (Nat.le_max_right _ _)]
    ·obtain ⟨k, _, hk⟩ := List.any_eq_true.1 hB
     simp only [Bool.and_eq_true] at hk
     obtain ⟨all⟩ := all
     refine wp_region_still_tail k hmix hk.2 ?_
     refine ops_still (P := P) (D := D) (L := L) (n := n) (w := { w with drawn := w.drawn + 1 }) (Q := Q .n) k all [] l [] f a ?_ hl hk.1 hrE h'
     intro ks' l2 e' f' a' h1 h2 h3
     exact ops_sound (w0 := w) (Q := Q .n) (fun f' a' w' hq hr' hs' => ⟨.n, f', rfl, hq, hr', hs'⟩) _ _ _ _ _ _ _ h1 h2 (drew_same w) h3
   ·split at hs
    case isFalse => cases hs
    rename_i hsel
    obtain ⟨t, ht, rfl⟩ := Option.map_eq_some_iff.1 hs
    obtain ⟨C, hC, h⟩ := h
    refine wp_region_held (S := fun w' => C w'.heap /\ Same w w') hmix ?_
    exact trT_sound hsel (w0 := w) (Q := Q .n) (fun f' a' w' hq hr' hs' => ⟨.n, f', rfl, hq, hr', hs'⟩) (fun c a' w' ⟨e', _, he, _⟩ => by cases e' <;> cases he) _ _ _ _ _ _ _ _ _ ht hrE hC (drew_same w) h
 | seq x y ihx ihy =>
  intro s hs Q f a w h hr
  simp only [trans] at hs
  obtain ⟨sx, hx, hs⟩ := Option.bind_eq_some_iff.1 hs
  obtain ⟨sy, hy, rfl⟩ := Option.map_eq_some_iff.1 hs
  refine wp_seq (wp_mono (ihx sx hx _ f a w h hr) ?_)
  rintro e a' w' ⟨e', f', rfl, hq, hr', hs'⟩
  cases e' with
  | n => exact wp_mono (ihy sy hy _ f' a' w' hq hr') fun _ _ _ h => liftQ_mono hs' h
  | x id => exact ⟨.x id, f', rfl, hq, hr', hs'⟩
  | r => exact ⟨.r, f', rfl, hq, hr', hs'⟩
 | cond c x y ihx ihy =>
  intro s hs Q f a w h hr
  simp only [trans] at hs
  obtain ⟨c', hc, hs⟩ := Option.bind_eq_some_iff.1 hs
  obtain ⟨sx, hx, hs⟩ := Option.bind_eq_some_iff.1 hs
  obtain ⟨sy, hy, rfl⟩ := Option.map_eq_some_iff.1 hs
  have hrE : RelE D L n [] [] a f := ⟨hr, fun t _ h => by simp at h⟩
  obtain ⟨hb, h1, h2⟩ := h
  have he := (hrE.rd _ _ hc).trans (isB_spec hb)
  exact wp_cond_split he (fun ht => ihx sx hx _ f a w (h1 ht) hr) (fun ht => ihy sy hy _ f a w (h2 ht) hr)
 | block id c ih =>
  intro s hs Q f a w h hr
  simp only [trans] at hs
  obtain ⟨sx, hx, rfl⟩ := Option.map_eq_some_iff.1 hs
  refine wp_block (wp_mono (ih sx hx _ f a w h hr) ?_)
  rintro e a' w' ⟨e', f', rfl, hq, hr', hs'⟩
  cases e' with
  | n => exact ⟨.n, f', rfl, hq, hr', hs'⟩
  | x i =>
   simp only [blkQ] at hq
   simp only [Ex.to, Exit.inBlock]
   split
   ·rename_i hi; rw [if_pos hi] at hq; exact ⟨.n, f', rfl, hq, hr', hs'⟩
   ·rename_i hi; rw [if_neg hi] at hq; exact ⟨.x i, f', rfl, hq, hr', hs'⟩
  | r => exact ⟨.r, f', rfl, hq, hr', hs'⟩
 | loop c ih =>
  intro s hs Q f a w h hr
  simp only [trans] at hs
  obtain ⟨sx, hx, rfl⟩ := Option.map_eq_some_iff.1 hs
  obtain ⟨I, ⟨m, h0⟩, hround⟩ := h
  refine wp_loop_ghost (fun k a' w' => ∃ f', I k f' w'.heap /\ Rel D L n a' f' /\ Same w w') m ⟨f, h0, hr, Same.refl w⟩ ?_
  rintro k a1 w1 ⟨f1, hI, hr1, hs1⟩
  refine wp_mono (ih sx hx _ f1 a1 w1 (hround k f1 w1.heap hI) hr1) ?_
  rintro e a' w' ⟨e', f', rfl, hq, hr', hs'⟩
  cases e' with
  | n =>
   obtain ⟨m', hm, hI'⟩ := hq
   exact ⟨m', hm, f', hI', hr', hs1.trans hs'⟩
  | x i => exact ⟨.x i, f', rfl, hq, hr', hs1.trans hs'⟩
  | r => exact ⟨.r, f', rfl, hq, hr', hs1.trans hs'⟩
 | exit id =>
  intro s hs Q f a w h hr
  cases hs
  exact wp_exit ⟨.x id, f, rfl, h, hr, Same.refl w⟩
 | ret =>
  intro s hs Q f a w h hr
  cases hs
  exact wp_ret ⟨.r, f, rfl, h, hr, Same.refl w⟩
 | _ => intro s hs; cases hs
end Go.Mg
