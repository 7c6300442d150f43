/- Several texts of ours in one. No conditions. -/
import Derived.WalkKit
import Derived.StillTailTactics
import Derived.Deep.LoopGhost
set_option linter.all false
namespace Go.Mg
open Go Go.RowKit
abbrev Hp := Array Obj
abbrev Fr := Nat -> Value
abbrev Env := List (Nat × Value)
structure Same (w w' : World) : Prop where
 os : w'.os = w.os
 tape : w'.tape = w.tape
 output : w'.output = w.output
theorem Same.refl (w : World) : Same w w := ⟨rfl, rfl, rfl⟩
theorem Same.trans {a b c : World} (h : Same a b) (k : Same b c) : Same a c := ⟨k.os.trans h.os, k.tape.trans h.tape, k.output.trans h.output⟩
def CallsM (P : Program) (f : FuncId) (args : Array Value) (H : Hp) (R : Value -> Hp -> Prop) : Prop :=
 ∀ w : World, w.heap = H -> Calls P f args w fun e w' => ∃ v, e = .returned v /\ R v w'.heap /\ Same w w'
theorem CallsM.mono {P : Program} {f : FuncId} {args : Array Value} {H : Hp} {R R' : Value -> Hp -> Prop} (h : CallsM P f args H R) (hr : ∀ v H', R v H' -> R' v H') : CallsM P f args H R' :=
 fun w hw => (h w hw).mono fun _ _ ⟨v, he, hR, hs⟩ => ⟨v, he, hr _ _ hR, hs⟩
inductive A where
 | t (n : Nat)
 | v (n : Nat)
 | c (x : Value)
def look : Env -> Nat -> Value
 | [], _ => undef
 | p :: e, n => if n = p.1 then p.2 else look e n
def A.rd (e : Env) (f : Fr) : A -> Value
 | .t n => look e n
 | .v n => f n
 | .c x => x
def upd (f : Fr) (d : Nat) (x : Value) : Fr := fun i => if i = d then x else f i
inductive D where
 | no
 | t (n : Nat)
 | v (n : Nat)
def D.env : D -> Value -> Env -> Env
 | .t n, x, e => (n, x) :: e
 | _, _, e => e
def D.fr : D -> Value -> Fr -> Fr
 | .v n, x, f => upd f n x
 | _, _, f => f
def cell (H : Hp) (a : Addr) : Option Value :=
 match H[a.block]? with
 | some (.cells c _ _) => if a.spot.isSome then none else c[a.off]?
 | _ => none
def frz (H : Hp) (a : Addr) : Bool :=
 match H[a.block]? with
 | some (.cells _ _ (lo, hi)) => lo <= a.off && a.off < hi
 | _ => false
def setc (H : Hp) (a : Addr) (v : Value) : Hp :=
 H.modify a.block fun
  | .cells c elem frozen => .cells (if a.spot.isSome then c else c.setIfInBounds a.off v) elem frozen
  | o => o
theorem cell_eq (w : World) (a : Addr) : w.cell? a = cell w.heap a := rfl
theorem frz_eq (w : World) (a : Addr) : w.frozen? a = frz w.heap a := rfl
theorem setc_eq (w : World) (a : Addr) (v : Value) : w.setCell a v = { w with heap := setc w.heap a v } := rfl
def _root_.Go.Value.i : Value -> Int | .int _ n => n | _ => 0
def _root_.Go.Value.b : Value -> Bool | .bool b => b | _ => false
def isI (k : IntKind) : Value -> Prop | .int k' _ => k' = k | _ => False
def isB : Value -> Prop | .bool _ => True | _ => False
def Does (P : Program) (o : Oper) (a : Act) (w : World) (K : Value -> Hp -> Prop) : Prop :=
 ∀ (next : Act -> World -> Prop) (Q : Exit -> Act -> World -> Prop), (∀ v w', K v w'.heap -> Same w w' -> next (a.put o.dst v) w') -> o.upon P a next Q ((execOp a.eval o).run P w)
end Go.Mg
namespace Go.Mg
open Go Go.RowKit
def _root_.Go.Value.s : Value -> ByteArray | .string s => s | _ => .empty
def isS : Value -> Prop | .string _ => True | _ => False
def isP : Value -> Prop | .pointer (some _) => True | _ => False
def isInt : Value -> Prop | .int _ _ => True | _ => False
theorem isI_spec {k : IntKind} {v : Value} (h : isI k v) : v = .int k v.i := by
 cases v <;> simp only [isI] at h; subst h; rfl
theorem isInt_spec {v : Value} (h : isInt v) : ∃ k, v = .int k v.i := by
 cases v <;> simp only [isInt] at h; exact ⟨_, rfl⟩
theorem isB_spec {v : Value} (h : isB v) : v = .bool v.b := by
 cases v <;> simp only [isB] at h; rfl
theorem isS_spec {v : Value} (h : isS v) : v = .string v.s := by
 cases v <;> simp only [isS] at h; rfl
theorem isP_spec {v : Value} (h : isP v) : ∃ p, v = .pointer (some p) := by
 cases v <;> simp only [isP] at h
 rename_i a; cases a <;> simp only at h; exact ⟨_, rfl⟩
section
variable {P : Program} {o : Oper} {w : World} {ρ : Operand -> Value}
theorem fin_v {s : Sem Value} {v : Value} (h : s.run P w = .ok v w) : (do pure (.value (← s)) : Sem Next).run P w = .ok (.value v) w := by
 simp only [Sem.run_bind, h, Result.andThen, Sem.run_pure]
end
section
variable {P : Program} {o : Oper} {w : World} {ρ : Operand -> Value}
theorem sizeOf_run (P : Program) (t : TypeId) (h : P.cellsOf t ≠ 0) (w : World) : (sizeOf t).run P w = .ok (P.cellsOf t) w := by
 unfold Program.cellsOf at h ⊢
 cases hi : P.info? t with
 | none => simp [hi] at h
 | some i => simp [sizeOf, typeInfo, program, Sem.run, hi, Sem.run_bind, Result.andThen]
end
section
variable {P : Program} {o : Oper} {w : World} {ρ : Operand -> Value}
theorem sizeOf_run' (P : Program) (t : TypeId) (h : (P.info? t).isSome = true) (w : World) : (sizeOf t).run P w = .ok (P.cellsOf t) w := by
 unfold Program.cellsOf
 cases hi : P.info? t with
 | none => simp [hi] at h
 | some i => simp [sizeOf, typeInfo, program, Sem.run, hi, Sem.run_bind, Result.andThen]
end
section
variable {P : Program} {o : Oper} {w : World} {ρ : Operand -> Value}
theorem load_run {H : Hp} (hw : w.heap = H) {a : Addr} {v : Value} (h : cell H a = some v) : (load a).run P w = .ok v w := by
 have : w.cell? a = some v := by rw [cell_eq, hw]; exact h
 simp [load, Sem.run, this]
end
theorem equal_run {P : Program} {w : World} {t : TypeId} {x y : Value} {b : Bool} (h : ∀ d, (Op.equalIn (d + 3) t x y).run P w = .ok b w) : (Op.equal t x y).run P w = .ok b w := h 9997
end Go.Mg
namespace Go.Mg
open Go Go.RowKit
def ldNA (H : Hp) (p : Addr) (n : Nat) : Option (Array Value) :=
 if p.spot.isSome then none else
 match H[p.block]? with
 | some (.cells C _ _) => if p.off + n <= C.size then some (C.extract p.off (p.off + n)) else none
 | _ => none
def ldNO (H : Hp) (v : Value) (n : Nat) : Option (Array Value) := match v with | .pointer (some p) => ldNA H p n | _ => none
theorem add_off (p : Addr) (hp : p.spot = none) (i : Nat) : p.add i = ⟨p.block, p.off + i, none⟩ := by
  cases p with | mk b o s => cases hp; unfold Addr.add; split
                             · rename_i h; subst h; rfl
                             · rfl
theorem loadCellsFrom_run {P : Program} {w : World} (p : Addr) (hp : p.spot = none) {C : Array Value} {T : TypeId} {z : Nat × Nat} (hb : w.heap[p.block]? = some (.cells C T z)) :
  ∀ (n i : Nat) (acc : Array Value), p.off + i + n <= C.size -> (loadCellsFrom p i n acc).run P w = .ok (acc ++ C.extract (p.off + i) (p.off + i + n)) w := by
 intro n
 induction n with
 | zero => intro i acc _; simp [loadCellsFrom]; exact Nat.min_le_left _ _
 | succ n ih =>
  intro i acc h
  have hlt : p.off + i < C.size := by omega
  have hc : cell w.heap (p.add i) = some (C[p.off + i]) := by
   rw [add_off p hp]; simp [cell, hb, hlt]
  simp only [loadCellsFrom, Sem.run_bind, load_run rfl hc, Result.andThen]
  rw [ih (i + 1) _ (by omega)]
  congr 1
  apply Array.ext'
  simp only [Array.toList_append, Array.toList_push, Array.toList_extract, List.extract_eq_take_drop]
  have e1 : p.off + (i + 1) + n - (p.off + (i + 1)) = n := by omega
  have e2 : p.off + i + (n + 1) - (p.off + i) = n + 1 := by omega
  rw [e1, e2, List.append_assoc]
  congr 1
  have hl : p.off + i < C.toList.length := by simpa using hlt
  rw [List.drop_eq_getElem_cons hl, List.take_succ_cons]
  simp [Nat.add_assoc]
theorem ldN_run {P : Program} {w : World} {p : Addr} {n : Nat} {xs : Array Value} (h : ldNA w.heap p n = some xs) : (loadCells p n).run P w = .ok xs w := by
 unfold ldNA at h
 split at h
 ·cases h
 ·rename_i hs
  have hs : p.spot = none := by simpa using hs
  split at h
  ·rename_i C T z hb
   split at h
   ·rename_i hle
    cases h
    have := loadCellsFrom_run (P := P) p hs hb n 0 #[] (by omega)
    simpa [loadCells] using this
   ·cases h
  ·cases h
def wrA (C : Array Value) (off : Nat) (xs : List Value) : Array Value := (C.toList.take off ++ xs ++ C.toList.drop (off + xs.length)).toArray
def stNA (H : Hp) (p : Addr) (xs : List Value) : Hp :=
 H.modify p.block fun
  | .cells C T z => .cells (wrA C p.off xs) T z
  | o => o
def stNH (H : Hp) (v : Value) (xs : List Value) : Hp := match v with | .pointer (some p) => stNA H p xs | _ => H
def okNA (H : Hp) (p : Addr) (n : Nat) : Prop := p.spot = none /\ ∃ C T z, H[p.block]? = some (.cells C T z) /\ p.off + n <= C.size /\ ∀ i, i < n -> frz H ⟨p.block, p.off + i, none⟩ = false
def okN (H : Hp) (v : Value) (n : Nat) : Prop := match v with | .pointer (some p) => okNA H p n | _ => False
theorem wrA_size {C : Array Value} {off : Nat} {xs : List Value} (h : off + xs.length <= C.size) : (wrA C off xs).size = C.size := by
 simp [wrA]; omega
theorem wrA_nil (C : Array Value) (off : Nat) : wrA C off [] = C := by simp [wrA]
theorem wrA_cons {C : Array Value} {off : Nat} {x : Value} {xs : List Value} (h : off + (xs.length + 1) <= C.size) : wrA (C.setIfInBounds off x) (off + 1) xs = wrA C off (x :: xs) := by
 obtain ⟨l⟩ := C
 simp only [List.size_toArray] at h
 simp only [wrA, List.setIfInBounds_toArray]
 congr 1
 have h1 : off < l.length := by omega
 have h2 : (l.set off x).take (off + 1) = l.take off ++ [x] := by
  rw [List.take_set, List.take_succ_eq_append_getElem h1, List.set_append]
  simp [Nat.min_eq_left (Nat.le_of_lt h1)]
 have h3 : (l.set off x).drop (off + 1 + xs.length) = l.drop (off + (xs.length + 1)) := by
  rw [List.drop_set_of_lt (by omega)]
  congr 1; omega
 simp [h2, h3]
theorem modify_known {H : Hp} {b : Nat} {o : Obj} (h : H[b]? = some o) (f : Obj -> Obj) : H.modify b f = H.setIfInBounds b (f o) := by
 have hb : b < H.size := (Array.getElem?_eq_some_iff.1 h).1
 apply Array.ext_getElem?
 intro i
 rw [Array.getElem?_modify, Array.getElem?_setIfInBounds]
 split
 ·rename_i hi; subst hi; rw [h]; rfl
 ·rfl
theorem setc_known {H : Hp} {p : Addr} {x : Value} (hp : p.spot = none) {C : Array Value} {T : TypeId} {z : Nat × Nat} (hb : H[p.block]? = some (.cells C T z)) :
  setc H p x = H.setIfInBounds p.block (.cells (C.setIfInBounds p.off x) T z) := by
 unfold setc; rw [modify_known hb]; simp [hp]
theorem stNA_known {H : Hp} {p : Addr} {xs : List Value} {C : Array Value} {T : TypeId} {z : Nat × Nat} (hb : H[p.block]? = some (.cells C T z)) :
  stNA H p xs = H.setIfInBounds p.block (.cells (wrA C p.off xs) T z) := by
 unfold stNA; rw [modify_known hb]
theorem getElem?_setKnown {H : Hp} {b : Nat} {o o' : Obj} (h : H[b]? = some o) : (H.setIfInBounds b o')[b]? = some o' := by
 have hb : b < H.size := (Array.getElem?_eq_some_iff.1 h).1
 simp [hb]
theorem setSet (H : Hp) (b : Nat) (o o' : Obj) : (H.setIfInBounds b o).setIfInBounds b o' = H.setIfInBounds b o' := by
 apply Array.ext_getElem?
 intro i
 rw [Array.getElem?_setIfInBounds, Array.getElem?_setIfInBounds, Array.getElem?_setIfInBounds]
 split
 ·simp
 ·rfl
theorem setSelf {H : Hp} {b : Nat} {o : Obj} (h : H[b]? = some o) : H.setIfInBounds b o = H := by
 have hb : b < H.size := (Array.getElem?_eq_some_iff.1 h).1
 apply Array.ext_getElem?
 intro i
 rw [Array.getElem?_setIfInBounds]
 split
 ·rename_i hi; subst hi; rw [h]
 ·rfl
theorem store_run {P : Program} {w : World} {p : Addr} {x : Value} (h1 : (cell w.heap p).isSome = true) (h2 : frz w.heap p = false) (h3 : x.oneCell' = true) : (store p x).run P w = .ok () (w.setCell p x) := by
 obtain ⟨v, hv⟩ := Option.isSome_iff_exists.1 h1
 have hc : w.cell? p = some v := hv
 have hf : w.frozen? p = false := h2
 unfold store
 cases x <;> first | (simp only [Sem.run, hc, hf, Bool.false_eq_true, if_false]; done) | cases h3
theorem storeCells_run {P : Program} (p : Addr) (hp : p.spot = none) {T : TypeId} {z : Nat × Nat} :
  ∀ (xs : List Value) (i : Nat) (C : Array Value) (w : World), w.heap[p.block]? = some (.cells C T z) -> p.off + i + xs.length <= C.size →
   (∀ j, j < i + xs.length -> frz w.heap ⟨p.block, p.off + j, none⟩ = false) -> (∀ x ∈ xs, x.oneCell' = true) →
   (storeCells p xs i).run P w = .ok () { w with heap := w.heap.setIfInBounds p.block (.cells (wrA C (p.off + i) xs) T z) } := by
 intro xs
 induction xs with
 | nil =>
  intro i C w hb _ _ _
  rw [wrA_nil, setSelf hb]
  simp [storeCells]
 | cons x xs ih =>
  intro i C w hb hlen hfr hx
  simp only [List.length_cons] at hlen hfr
  have hlt : p.off + i < C.size := by omega
  have ha := add_off p hp i
  have hc : (cell w.heap (p.add i)).isSome = true := by rw [ha]; simp [cell, hb, hlt]
  have hf : frz w.heap (p.add i) = false := by rw [ha]; exact hfr i (by omega)
  have h1 := store_run (P := P) hc hf (hx x (by simp))
  have hset : w.setCell (p.add i) x = { w with heap := w.heap.setIfInBounds p.block (.cells (C.setIfInBounds (p.off + i) x) T z) } := by
   rw [setc_eq, ha, setc_known (p := ⟨p.block, p.off + i, none⟩) rfl hb]
  simp only [storeCells, Sem.run_bind, h1, Result.andThen, hset]
  have hb' : ({ w with heap := w.heap.setIfInBounds p.block (.cells (C.setIfInBounds (p.off + i) x) T z) } : World).heap[p.block]? = some (.cells (C.setIfInBounds (p.off + i) x) T z) := getElem?_setKnown hb
  rw [ih (i + 1) _ _ hb' (by simp; omega) ?_ (fun y hy => hx y (by simp [hy]))]
  ·simp only [setSet]
   rw [show p.off + (i + 1) = p.off + i + 1 by omega, wrA_cons (by omega)]
  ·intro j hj
   have := hfr j (by omega)
   simp only [frz, hb, getElem?_setKnown hb] at this ⊢
   exact this
theorem stN_run {P : Program} {w : World} {p : Addr} {xs : List Value} (h : okNA w.heap p xs.length) (hx : ∀ x ∈ xs, x.oneCell' = true) : (storeCells p xs).run P w = .ok () { w with heap := stNA w.heap p xs } := by
 obtain ⟨hp, C, T, z, hb, hl, hf⟩ := h
 rw [storeCells_run p hp xs 0 C w hb (by omega) (fun j hj => hf j (by omega)) hx, stNA_known hb]
 rfl
end Go.Mg
