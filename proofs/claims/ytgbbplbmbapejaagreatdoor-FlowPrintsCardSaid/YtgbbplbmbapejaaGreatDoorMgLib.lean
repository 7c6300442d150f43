/- readers of the library that have no text: IndexByte, Compare. -/
import Derived.Test.YtgbbplbmbapejaaGreatDoorMgEl
import Derived.Laws.Externs
set_option linter.all false
namespace Go.Mg
open Go Go.RowKit
structure LibIs (P : Program) (f : FuncId) (e : Array Value -> Sem Value) : Prop where
 mk' ::
 fn : ∃ fn, P.funcs[f]? = some fn /\ (fn.name == "runtime.NumGoroutine") = false /\ fn.body.isNone = true /\ Extern.findNext fn = none /\ Extern.find fn = some e
theorem LibIs.run {P : Program} {f : FuncId} {e : Array Value -> Sem Value} (h : LibIs P f e) (args : Array Value) (w : World) {v : Value} (hv : (e args).run P w = .ok v w) : (callFunc f args).run P w = .ok (.value v) w := by
 obtain ⟨fn, h1, h2, h3, h4, h5⟩ := h.fn
 rw [run_callFunc_extern h1 h2 h3 h4 h5, hv]; rfl
theorem LibIs.run' {P : Program} {f : FuncId} {e : Array Value -> Sem Value} (h : LibIs P f e) (args : Array Value) (w w' : World) {v : Value} (hv : (e args).run P w = .ok v w') : (callFunc f args).run P w = .ok (.value v) w' := by
 obtain ⟨fn, h1, h2, h3, h4, h5⟩ := h.fn
 rw [run_callFunc_extern h1 h2 h3 h4 h5, hv]; rfl
theorem ba_beq (a b : List UInt8) : ((⟨a.toArray⟩ : ByteArray) == ⟨b.toArray⟩) = decide (a = b) := by
 by_cases h : a = b
 ·subst h
  rw [decide_eq_true rfl]
  show (a.toArray == a.toArray) = true
  simp
 ·rw [decide_eq_false h]
  apply Bool.eq_false_iff.2
  intro hb
  apply h
  have : (a.toArray == b.toArray) = true := hb
  have := beq_iff_eq.1 this
  simpa using congrArg Array.toList this
theorem ba_tlb (a b : List UInt8) : ((⟨a.toArray⟩ : ByteArray).toList == (⟨b.toArray⟩ : ByteArray).toList) = decide (a = b) := by
 rw [ByteArray.toList_eq, ByteArray.toList_eq]
 by_cases h : a = b
 ·subst h; simp
 ·rw [decide_eq_false h]
  exact beq_eq_false_iff_ne.2 h
theorem ba_app (a b : List UInt8) : (⟨a.toArray⟩ : ByteArray) ++ ⟨b.toArray⟩ = ⟨(a ++ b).toArray⟩ := by
 apply ByteArray.ext
 rw [ByteArray.data_append]
 simp
theorem ba_size (a : List UInt8) : (⟨a.toArray⟩ : ByteArray).size = a.length := rfl
theorem ba_get (s : List UInt8) (i : Nat) (h : i < s.length) : (⟨s.toArray⟩ : ByteArray)[i]?.getD 0 = s.getD i 0 := by
 have h' : i < (⟨s.toArray⟩ : ByteArray).size := by rw [ba_size]; exact h
 have e : (⟨s.toArray⟩ : ByteArray)[i]? = some (s[i]) := by
  exact getElem?_pos (⟨s.toArray⟩ : ByteArray) i h'
 rw [e]; simp [h]
end Go.Mg
