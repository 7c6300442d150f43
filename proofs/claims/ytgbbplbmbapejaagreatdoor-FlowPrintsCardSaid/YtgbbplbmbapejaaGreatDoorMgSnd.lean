/- Part of the proof of FlowPrintsCardSaid: a lemma text of ours, over the kit alone. No conditions. -/
import Derived.Test.YtgbbplbmbapejaaGreatDoorMgOps
set_option linter.all false
namespace Go.Mg
open Go Go.RowKit
section
variable {P : Program} {o : Oper} {w : World} {ρ : Operand -> Value}
theorem eqGuard_int (op : BinOp) (t : TypeId) (x y : Operand) (k k' : IntKind) (m n : Int) : (eqGuard op t x y (.int k m) (.int k' n)).run P w = .ok () w := by
 cases op <;> rfl
theorem eqGuard_str (op : BinOp) (t : TypeId) (x y : Operand) (m n : ByteArray) : (eqGuard op t x y (.string m) (.string n)).run P w = .ok () w := by
 cases op <;> rfl
theorem eqGuard_bool (op : BinOp) (t : TypeId) (x y : Operand) (m n : Bool) : (eqGuard op t x y (.bool m) (.bool n)).run P w = .ok () w := by
 cases op <;> rfl
theorem run_bin (op : BinOp) (t : TypeId) (x y : Operand) (u : TypeId) (hop : o.op = .binOp op t x y u) {v : Value}
  (hg : (eqGuard op t x y (ρ x) (ρ y)).run P w = .ok () w) (h : (binOp op t (ρ x) (ρ y)).run P w = .ok v w) :
  (execOp ρ o).run P w = .ok (.value v) w := by
 simp only [execOp, hop, Sem.run_bind, hg, Result.andThen, h, Sem.run_pure]
theorem ar_run (op : BinOp) (hop : op = .add \/ op = .sub \/ op = .mul) (t : TypeId) (k : IntKind) (m n : Int) : (binOp op t (.int k m) (.int k n)).run P w = .ok (.int k (k.wrap (arI op m n))) w := by
 rcases hop with rfl | rfl | rfl <;> simp [binOp, Op.intArith, arI]
theorem dv_run (op : BinOp) (hop : op = .quo \/ op = .rem) (t : TypeId) (k : IntKind) (m n : Int) (hn : n ≠ 0) : (binOp op t (.int k m) (.int k n)).run P w = .ok (.int k (dvI k op m n)) w := by
 rcases hop with rfl | rfl <;> simp [binOp, Op.intDiv, dvI, hn]
theorem bt_run (op : BinOp) (hop : op = .and \/ op = .or \/ op = .xor \/ op = .andNot) (t : TypeId) (k : IntKind) (m n : Int) : (binOp op t (.int k m) (.int k n)).run P w = .ok (.int k (bits op k m n)) w := by
 rcases hop with rfl | rfl | rfl | rfl <;> simp [binOp, Op.intBits, bits]
theorem sh_run (op : BinOp) (hop : op = .shl \/ op = .shr) (t : TypeId) (k k' : IntKind) (m n : Int) (h0 : 0 <= n) (h1 : n <= k.bits) : (binOp op t (.int k m) (.int k' n)).run P w = .ok (.int k (shI k op m n)) w := by
 rcases hop with rfl | rfl
 ·simp [binOp, shift_shl k k' m n h0 h1, shI]
 ·simp [binOp, shift_shr k k' m n h0 h1, shI]
theorem cm_run (op : BinOp) (hop : op = .eql \/ op = .neq \/ op = .lss \/ op = .leq \/ op = .gtr \/ op = .geq) (t : TypeId) (k : IntKind) (m n : Int) : (binOp op t (.int k m) (.int k n)).run P w = .ok (.bool (cmI op m n)) w := by
 rcases hop with rfl | rfl | rfl | rfl | rfl | rfl <;> simp [binOp, Op.intCmp, cmI]
theorem sc_run (op : BinOp) (hop : op = .eql \/ op = .neq \/ op = .lss \/ op = .leq \/ op = .gtr \/ op = .geq) (t : TypeId) (m n : ByteArray) : (binOp op t (.string m) (.string n)).run P w = .ok (.bool (scB op m n)) w := by
 rcases hop with rfl | rfl | rfl | rfl | rfl | rfl <;> simp [binOp, Op.stringOp, scB]
theorem sadd_run (t : TypeId) (m n : ByteArray) (h : m.size + n.size <= maxLen) : (binOp .add t (.string m) (.string n)).run P w = .ok (.string (m ++ n)) w := by
 unfold maxLen at h
 have : ¬ (((m.size + n.size : Nat) : Int) > IntKind.i64.max) := by
  have : IntKind.i64.max = 9223372036854775807 := by decide
  omega
 simp only [binOp, Op.stringOp, this, if_false, Sem.run_pure]
theorem equalIn_bool (d : Nat) (t : TypeId) (ht : P.underlying t = some .bool) (m n : Bool) : (Op.equalIn (d + 1) t (.bool m) (.bool n)).run P w = .ok (m == n) w := by
 simp only [Op.equalIn, Sem.run_bind, run_underlying ht, Result.andThen, Sem.run_pure]
theorem eql_run {t : TypeId} {x y : Value} {b : Bool} (h : (Op.equal t x y).run P w = .ok b w) : ((do pure (.bool (← Op.equal t x y)) : Sem Value)).run P w = .ok (.bool b) w := by
 simp only [Sem.run_bind, h, Result.andThen, Sem.run_pure]
theorem neq_run {t : TypeId} {x y : Value} {b : Bool} (h : (Op.equal t x y).run P w = .ok b w) : ((do pure (.bool (!(← Op.equal t x y))) : Sem Value)).run P w = .ok (.bool (!b)) w := by
 simp only [Sem.run_bind, h, Result.andThen, Sem.run_pure]
theorem eqb_run (op : BinOp) (hop : op = .eql \/ op = .neq) (t : TypeId) (ht : P.underlying t = some .bool) (m n : Bool) : (binOp op t (.bool m) (.bool n)).run P w = .ok (.bool ((match op with | .neq => true | _ => false) != (m == n))) w := by
 have e := equal_run (fun d => equalIn_bool (P := P) (w := w) (d + 2) t ht m n)
 rcases hop with rfl | rfl
 ·exact (eql_run e).trans (by simp)
 ·exact (neq_run e).trans (by simp)
theorem fin_int {op : BinOp} {t : TypeId} {x y : Operand} {u : TypeId} (hop : o.op = .binOp op t x y u) {k k' : IntKind} {m n : Int} {v : Value} (h1 : ρ x = .int k m) (h2 : ρ y = .int k' n)
  (h : (binOp op t (.int k m) (.int k' n)).run P w = .ok v w) : (execOp ρ o).run P w = .ok (.value v) w :=
 run_bin op t x y u hop (by rw [h1, h2]; exact eqGuard_int ..) (by rw [h1, h2]; exact h)
theorem fin_str {op : BinOp} {t : TypeId} {x y : Operand} {u : TypeId} (hop : o.op = .binOp op t x y u) {m n : ByteArray} {v : Value} (h1 : ρ x = .string m) (h2 : ρ y = .string n)
  (h : (binOp op t (.string m) (.string n)).run P w = .ok v w) : (execOp ρ o).run P w = .ok (.value v) w :=
 run_bin op t x y u hop (by rw [h1, h2]; exact eqGuard_str ..) (by rw [h1, h2]; exact h)
theorem fin_bool {op : BinOp} {t : TypeId} {x y : Operand} {u : TypeId} (hop : o.op = .binOp op t x y u) {m n : Bool} {v : Value} (h1 : ρ x = .bool m) (h2 : ρ y = .bool n)
  (h : (binOp op t (.bool m) (.bool n)).run P w = .ok v w) : (execOp ρ o).run P w = .ok (.value v) w :=
 run_bin op t x y u hop (by rw [h1, h2]; exact eqGuard_bool ..) (by rw [h1, h2]; exact h)
theorem px1_sound {tr : Operand -> Option A} {r : A -> Value} {x : PX} (hx : px1 P tr o = some x) (htr : ∀ y z, tr y = some z -> ρ y = r z) (hpre : x.pre r w.heap) :
  (execOp ρ o).run P w = .ok (.value (x.val r w.heap)) w := by
 cases hop : o.op <;> simp only [px1, hop] at hx <;> try (cases hx; done)
 case move y =>
  simp only [bind, Option.bind_eq_some_iff] at hx
  obtain ⟨a, ha, hx⟩ := hx
  cases hx
  simp only [execOp, hop, Sem.run_pure, PX.val, htr _ _ ha]
 case assign y =>
  simp only [bind, Option.bind_eq_some_iff] at hx
  obtain ⟨a, ha, hx⟩ := hx
  cases hx
  simp only [execOp, hop, Sem.run_pure, PX.val, htr _ _ ha]
 case pick c y z =>
  simp only [bind, Option.bind_eq_some_iff] at hx
  obtain ⟨c', hc, y', hy, z', hz, hx⟩ := hx
  cases hx
  have hb := isB_spec (v := r c') hpre
  simp only [execOp, hop, PX.val, htr _ _ hc, htr _ _ hy, htr _ _ hz]
  rw [hb]
  simp only [asBool, Sem.run_bind, Sem.run_pure, Result.andThen, Value.b]
  rfl
 case binOp op t y z u =>
  simp only [bind, Option.bind_eq_some_iff] at hx
  obtain ⟨y', hy, z', hz, hx⟩ := hx
  have ey := htr _ _ hy
  have ez := htr _ _ hz
  split at hx <;> cases hx <;> rename_i hu
  iterate 3
   obtain ⟨h1, h2⟩ := hpre
   exact fin_int hop (ey.trans (isI_spec h1)) (ez.trans (isI_spec h2)) (ar_run _ (by simp) t _ _ _)
  iterate 2
   obtain ⟨h1, h2, h3⟩ := hpre
   exact fin_int hop (ey.trans (isI_spec h1)) (ez.trans (isI_spec h2)) (dv_run _ (by simp) t _ _ _ h3)
  iterate 4
   obtain ⟨h1, h2⟩ := hpre
   exact fin_int hop (ey.trans (isI_spec h1)) (ez.trans (isI_spec h2)) (bt_run _ (by simp) t _ _ _)
  iterate 2
   obtain ⟨h1, h2, h3, h4⟩ := hpre
   obtain ⟨k', e2⟩ := isInt_spec h2
   exact fin_int hop (ey.trans (isI_spec h1)) (ez.trans e2) (sh_run _ (by simp) t _ _ _ _ h3 h4)
  iterate 6
   obtain ⟨h1, h2⟩ := hpre
   exact fin_int hop (ey.trans (isI_spec h1)) (ez.trans (isI_spec h2)) (cm_run _ (by simp) t _ _ _)
  ·obtain ⟨h1, h2, h3⟩ := hpre
   exact fin_str hop (ey.trans (isS_spec h1)) (ez.trans (isS_spec h2)) (sadd_run t _ _ h3)
  iterate 6
   obtain ⟨h1, h2⟩ := hpre
   exact fin_str hop (ey.trans (isS_spec h1)) (ez.trans (isS_spec h2)) (sc_run _ (by simp) t _ _)
  iterate 2
   obtain ⟨h1, h2⟩ := hpre
   exact fin_bool hop (ey.trans (isB_spec h1)) (ez.trans (isB_spec h2)) (eqb_run _ (by simp) t hu _ _)
 case unOp op t y =>
  cases op <;> simp only [bind, Option.bind_eq_some_iff] at hx
  case not =>
   obtain ⟨y', hy, hx⟩ := hx
   cases hx
   have e := isB_spec (v := r y') hpre
   simp only [execOp, hop, htr _ _ hy]
   rw [e]
   refine fin_v ?_
   simp only [Op.unary, Sem.run_pure, PX.val]
  case neg =>
   obtain ⟨y', hy, hx⟩ := hx
   split at hx
   case h_2 => cases hx
   rename_i k hu
   cases hx
   have e := isI_spec (v := r y') hpre
   simp only [execOp, hop, htr _ _ hy]
   rw [e]
   refine fin_v ?_
   simp only [Op.unary, Op.intArith, Sem.run_pure, PX.val, Int.zero_sub]
  case xor =>
   obtain ⟨y', hy, hx⟩ := hx
   split at hx
   case h_2 => cases hx
   rename_i k hu
   cases hx
   have e := isI_spec (v := r y') hpre
   simp only [execOp, hop, htr _ _ hy]
   rw [e]
   refine fin_v ?_
   simp only [Op.unary, Op.intBits, Sem.run_pure, PX.val]
   rw [e]
   rfl
  case plus =>
   obtain ⟨y', hy, hx⟩ := hx
   cases hx
 case convert s t y =>
  simp only [bind, Option.bind_eq_some_iff] at hx
  obtain ⟨y', hy, hx⟩ := hx
  have ey := htr _ _ hy
  split at hx <;> cases hx <;> rename_i hu hv
  ·obtain ⟨k', e⟩ := isInt_spec (v := r y') hpre
   simp only [execOp, hop, ey, PX.val]
   refine fin_v ?_
   generalize (r y').i = n at *
   rw [e]
   simp only [convert, Sem.run_bind, run_underlying hu, run_underlying hv, Result.andThen, Conv.intToInt, Sem.run_pure]
  ·have e := isS_spec (v := r y') hpre
   simp only [execOp, hop, ey, PX.val]
   refine fin_v ?_
   generalize (r y').s = n at *
   rw [e]
   simp only [convert, Sem.run_bind, run_underlying hu, run_underlying hv, Result.andThen, Sem.run_pure]
 case load t y =>
  simp only [bind, Option.bind_eq_some_iff] at hx
  obtain ⟨y', hy, hx⟩ := hx
  have ey := htr _ _ hy
  split at hx <;> cases hx
  rename_i d hd1 hd2 hd3
  simp only [execOp, hop, ey, PX.val]
  simp only [PX.pre] at hpre
  refine fin_v ?_
  generalize r y' = v at *
  unfold ldO at *
  split at hpre
  ·rename_i a
   obtain ⟨x, hx⟩ := Option.isSome_iff_exists.1 hpre
   have hl := load_run (P := P) rfl hx
   have hagg : (isAgg t).run P w = .ok false w := by
    cases hu : P.underlying t with
    | none => exact (hd3 hu).elim
    | some d =>
     simp only [isAgg, Sem.run_bind, run_underlying hu, Result.andThen]
     cases d <;> first | rfl | exact (hd1 _ hu).elim | exact (hd2 _ _ hu).elim
   simp only [Instr.loadAt, Instr.sureAddr, loadVar, Sem.run_bind, Sem.run_pure, Result.andThen, hagg, Bool.false_eq_true, if_false, hl, hx, Option.getD_some]
  ·cases hpre
 case nilCheck y =>
  simp only [bind, Option.bind_eq_some_iff] at hx
  obtain ⟨y', hy, hx⟩ := hx
  cases hx
  have ey := htr _ _ hy
  simp only [execOp, hop, ey, PX.val]
  simp only [PX.pre] at hpre
  generalize r y' = v at *
  clear ey
  cases v with
  | pointer a => cases a with
   | none => exact hpre.elim
   | some a => rfl
  | nilIface => exact hpre.elim
  | nilFunc => exact hpre.elim
  | func fn fi ca => cases fn <;> first | rfl | exact hpre.elim
  | _ => rfl
 case fieldAddr s y f =>
  simp only [bind, Option.bind_eq_some_iff] at hx
  obtain ⟨y', hy, hx⟩ := hx
  have ey := htr _ _ hy
  split at hx
  ·rename_i fs hu
   split at hx
   ·rename_i fd hf
    split at hx
    ·cases hx
    ·rename_i hne
     cases hx
     obtain ⟨p, hp⟩ := isP_spec hpre
     simp only [execOp, hop, ey, PX.val]
     refine fin_v ?_
     rw [hp]
     simp only [Instr.fieldAt, Sem.run_bind, run_underlying hu, Result.andThen, hf, Instr.sureAddr, Sem.run_pure, fieldPlace, sizeOf_run P fd.type hne, hne, if_false, ptrAdd]
   ·cases hx
  ·cases hx
 case indexAddr t y i =>
  simp only [bind, Option.bind_eq_some_iff] at hx
  obtain ⟨y', hy, i', hi, hx⟩ := hx
  have ey := htr _ _ hy
  have ei := htr _ _ hi
  split at hx
  ·rename_i n e hu
   split at hx
   ·cases hx
    obtain ⟨h1, h2, h3, h4⟩ := hpre
    obtain ⟨p, hp⟩ := isP_spec h1
    obtain ⟨k, hk⟩ := isInt_spec h2
    rename_i hn
    simp only [execOp, hop, ey, ei, PX.val]
    refine fin_v ?_
    generalize (r i').i = q at *
    rw [hp, hk]
    have hc : 0 <= q /\ q < (n : Int) := ⟨h3, h4⟩
    simp only [Instr.indexAt, Sem.run_bind, asIntOf, run_underlying hu, Result.andThen, Instr.sureAddr, Sem.run_pure, hc, and_self, if_true, sizeOf_run' P e hn.2, ptrAdd]
   ·cases hx
  ·rename_i e hu
   split at hx
   ·rename_i hn
    cases hx
    obtain ⟨h2, h3⟩ := hpre
    obtain ⟨k, hk⟩ := isInt_spec h2
    simp only [execOp, hop, ey, ei, PX.val]
    refine fin_v ?_
    generalize (r i').i = q at *
    generalize r y' = v at *
    rw [hk]
    unfold okElt at h3
    split at h3
    ·rename_i a l c
     obtain ⟨h4, h5, h6⟩ := h3
     obtain ⟨p, rfl⟩ := Option.isSome_iff_exists.1 h4
     have hc : 0 <= q /\ q < (l : Int) := ⟨h5, h6⟩
     simp only [Instr.indexAt, Sem.run_bind, asIntOf, run_underlying hu, Result.andThen, Sem.run_pure, hc, and_self, if_true, sizeOf_run' P e hn, eltP, Option.map_some]
    ·exact h3.elim
   ·cases hx
  ·cases hx
 case extract y i =>
  simp only [bind, Option.bind_eq_some_iff] at hx
  obtain ⟨y', hy, hx⟩ := hx
  cases hx
  have ey := htr _ _ hy
  simp only [PX.pre] at hpre
  simp only [execOp, hop, ey, PX.val]
  refine fin_v ?_
  unfold tupI at *
  generalize r y' = v at *
  cases v <;> simp only [Option.isSome_none, Bool.false_eq_true] at hpre
  obtain ⟨x, hx⟩ := Option.isSome_iff_exists.1 hpre
  simp only [Instr.extract, hx, Sem.run_pure, Option.getD_some]
theorem px_sound {tr : Operand -> Option A} {r : A -> Value} {x : PX} (hx : px P tr o = some x) (htr : ∀ y z, tr y = some z -> ρ y = r z) (hc : ∀ v, ρ (.const v) = v) (hpre : x.pre r w.heap) :
  (execOp ρ o).run P w = .ok (.value (x.val r w.heap)) w := by
 unfold px at hx
 split at hx
 ·rename_i x' h1; cases hx; exact px1_sound h1 htr hpre
 ·obtain ⟨q, hq, rfl⟩ := Option.map_eq_some_iff.1 hx; exact pm_sound hq htr hc hpre
end
end Go.Mg
