/- Part of the proof of MatchingErrsCardSaid: a lemma text of ours, over the kit alone. No conditions. -/
import Derived.Test.YtihlnbepcimnfaaDoorMgCore
namespace Go.Mg
open Go Go.RowKit
def _root_.Go.Value.s : Value → ByteArray | .string s => s | _ => .empty
def isS : Value → Prop | .string _ => True | _ => False
def isP : Value → Prop | .pointer (some _) => True | _ => False
def isInt : Value → Prop | .int _ _ => True | _ => False
theorem isI_spec {k : IntKind} {v : Value} (h : isI k v) : v = .int k v.i := by
  cases v <;> simp only [isI] at h; subst h; rfl
theorem isInt_spec {v : Value} (h : isInt v) : ∃ k, v = .int k v.i := by
  cases v <;> simp only [isInt] at h; exact ⟨_, rfl⟩
theorem isB_spec {v : Value} (h : isB v) : v = .bool v.b := by
  cases v <;> simp only [isB] at h; rfl
theorem isS_spec {v : Value} (h : isS v) : v = .string v.s := by
  cases v <;> simp only [isS] at h; rfl
theorem isP_spec {v : Value} (h : isP v) : ∃ p, v = .pointer (some p) := by
  cases v <;> simp only [isP] at h
  rename_i a; cases a <;> simp only at h; exact ⟨_, rfl⟩

section
variable {P : Program} {o : Oper} {w : World} {ρ : Operand → Value}
theorem fin_v {s : Sem Value} {v : Value} (h : s.run P w = .ok v w) : (do pure (.value (← s)) : Sem Next).run P w = .ok (.value v) w := by
  simp only [Sem.run_bind, h, Result.andThen, Sem.run_pure]
end
section
variable {P : Program} {o : Oper} {w : World} {ρ : Operand → Value}
theorem sizeOf_run (P : Program) (t : TypeId) (h : P.cellsOf t ≠ 0) (w : World) : (sizeOf t).run P w = .ok (P.cellsOf t) w := by
  unfold Program.cellsOf at h ⊢
  cases hi : P.info? t with
  | none => simp [hi] at h
  | some i => simp [sizeOf, typeInfo, program, Sem.run, hi, Sem.run_bind, Result.andThen]
end
section
variable {P : Program} {o : Oper} {w : World} {ρ : Operand → Value}
theorem sizeOf_run' (P : Program) (t : TypeId) (h : (P.info? t).isSome = true) (w : World) : (sizeOf t).run P w = .ok (P.cellsOf t) w := by
  unfold Program.cellsOf
  cases hi : P.info? t with
  | none => simp [hi] at h
  | some i => simp [sizeOf, typeInfo, program, Sem.run, hi, Sem.run_bind, Result.andThen]
end
section
variable {P : Program} {o : Oper} {w : World} {ρ : Operand → Value}
theorem load_run {H : Hp} (hw : w.heap = H) {a : Addr} {v : Value} (h : cell H a = some v) : (load a).run P w = .ok v w := by
  have : w.cell? a = some v := by rw [cell_eq, hw]; exact h
  simp [load, Sem.run, this]
end
theorem equal_run {P : Program} {w : World} {t : TypeId} {x y : Value} {b : Bool} (h : ∀ d, (Op.equalIn (d + 3) t x y).run P w = .ok b w) : (Op.equal t x y).run P w = .ok b w := h 9997
end Go.Mg
