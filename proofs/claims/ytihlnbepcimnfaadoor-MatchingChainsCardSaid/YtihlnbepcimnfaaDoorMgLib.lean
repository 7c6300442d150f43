/- readers of the library that have no text: IndexByte, Compare. -/
import Derived.Test.YtihlnbepcimnfaaDoorMgOwn
import Derived.Laws.Externs
namespace Go.Mg
open Go Go.RowKit
theorem loadBytes_run {P : Program} {w : World} (b : Nat) : ∀ (l : List UInt8) (o : Nat) (acc : ByteArray), (∀ i, i < l.length → cell w.heap ⟨b, o + i, none⟩ = (w8 l)[i]?) →
    (Extern.Bytes.loadBytes ⟨b, o, none⟩ l.length acc).run P w = .ok ⟨acc.data ++ l.toArray⟩ w
  | [], o, acc, _ => by simp [Extern.Bytes.loadBytes, Sem.run_pure]
  | x :: l, o, acc, h => by
    have h0 := h 0 (by simp)
    rw [Nat.add_zero] at h0
    have h0 : cell w.heap ⟨b, o, none⟩ = some (.int .u8 x.toNat) := h0
    have ih := loadBytes_run (P := P) b l (o + 1) (acc.push x) (fun i hi => by
      have := h (i + 1) (by simp; omega)
      rw [show o + 1 + i = o + (i + 1) by omega, this]
      simp [w8])
    simp only [List.length_cons, Extern.Bytes.loadBytes, Sem.run_bind, load_run rfl h0, Result.andThen]
    have e : ((x.toNat : Int).toNat.toUInt8) = x := by simp
    rw [e, add_mk, ih]
    congr 2
    simp [ByteArray.push]
theorem bytesOf_run {P : Program} {w : World} {v : Value} {l : List UInt8} (h : SlR w.heap v (w8 l)) : (Extern.Bytes.bytesOf v).run P w = .ok ⟨l.toArray⟩ w := by
  by_cases hl : l = []
  · subst hl
    rcases h with ⟨a, c, rfl, _⟩ | ⟨b, o, c, h0, _⟩
    · cases a
      · rfl
      · rfl
    · exact (h0 rfl).elim
  · obtain ⟨b, o, c, rfl, -, hc⟩ := h.cells (by simpa [w8] using hl)
    rw [w8_len] at hc ⊢
    have := loadBytes_run (P := P) (w := w) b l o .empty hc
    simpa [Extern.Bytes.bytesOf] using this
/-- the first place of a byte -/
def idxOf (l : List UInt8) (x : UInt8) : Int := match (List.range l.length).find? fun i => (⟨l.toArray⟩ : ByteArray)[i]! == x with | some i => i | none => -1
def cmpL (a b : List UInt8) : Int := Extern.BytealgCompare.cmp ⟨a.toArray⟩ ⟨b.toArray⟩
structure LibIs (P : Program) (f : FuncId) (e : Array Value → Sem Value) : Prop where
  mk' ::
  fn : ∃ fn, P.funcs[f]? = some fn ∧ (fn.name == "runtime.NumGoroutine") = false ∧ fn.body.isNone = true ∧ Extern.findNext fn = none ∧ Extern.find fn = some e
theorem LibIs.run {P : Program} {f : FuncId} {e : Array Value → Sem Value} (h : LibIs P f e) (args : Array Value) (w : World) {v : Value} (hv : (e args).run P w = .ok v w) : (callFunc f args).run P w = .ok (.value v) w := by
  obtain ⟨fn, h1, h2, h3, h4, h5⟩ := h.fn
  rw [run_callFunc_extern h1 h2 h3 h4 h5, hv]; rfl
theorem LibIs.run' {P : Program} {f : FuncId} {e : Array Value → Sem Value} (h : LibIs P f e) (args : Array Value) (w w' : World) {v : Value} (hv : (e args).run P w = .ok v w') : (callFunc f args).run P w = .ok (.value v) w' := by
  obtain ⟨fn, h1, h2, h3, h4, h5⟩ := h.fn
  rw [run_callFunc_extern h1 h2 h3 h4 h5, hv]; rfl
theorem indexByte_lib {P : Program} {f : FuncId} (h : LibIs P f Extern.BytealgIndexByte.indexByte) {H : Hp} {v : Value} {l : List UInt8} (hv : SlR H v (w8 l)) (x : UInt8) : LibVal P f #[v, .int .u8 x.toNat] H (.int .i64 (idxOf l x)) := by
  intro w hw
  subst hw
  refine h.run _ _ ?_
  change Sem.run P (do
    let b ← Extern.Bytes.bytesOf v
    let c' ← Extern.Bytes.asByte (.int .u8 x.toNat)
    match (List.range b.size).find? fun i => b[i]! == c' with
    | some i => pure (goInt i)
    | none => pure (goInt (-1))) w = _
  have e : ((x.toNat : Int).toNat.toUInt8) = x := by simp
  simp only [bytesOf_run hv, Extern.Bytes.asByte, idxOf, Sem.run_bind, Sem.run_pure, Result.andThen, e]
  show Sem.run P (match (List.range l.length).find? fun i => (⟨l.toArray⟩ : ByteArray)[i]! == x with | some i => pure (goInt i) | none => pure (goInt (-1))) w = _
  split <;> simp_all [goInt, Sem.run_pure]
theorem compare_lib {P : Program} {f : FuncId} (h : LibIs P f Extern.BytealgCompare.compare) {H : Hp} {v u : Value} {l m : List UInt8} (hv : SlR H v (w8 l)) (hu : SlR H u (w8 m)) : LibVal P f #[v, u] H (.int .i64 (cmpL l m)) := by
  intro w hw
  subst hw
  refine h.run _ _ ?_
  change Sem.run P (do pure (goInt (Extern.BytealgCompare.cmp (← Extern.Bytes.bytesOf v) (← Extern.Bytes.bytesOf u)))) w = _
  simp only [bytesOf_run hv, bytesOf_run hu, Sem.run_bind, Sem.run_pure, Result.andThen]
  rfl
theorem ba_beq (a b : List UInt8) : ((⟨a.toArray⟩ : ByteArray) == ⟨b.toArray⟩) = decide (a = b) := by
  by_cases h : a = b
  · subst h
    rw [decide_eq_true rfl]
    show (a.toArray == a.toArray) = true
    simp
  · rw [decide_eq_false h]
    apply Bool.eq_false_iff.2
    intro hb
    apply h
    have : (a.toArray == b.toArray) = true := hb
    have := beq_iff_eq.1 this
    simpa using congrArg Array.toList this
theorem ba_tlb (a b : List UInt8) : ((⟨a.toArray⟩ : ByteArray).toList == (⟨b.toArray⟩ : ByteArray).toList) = decide (a = b) := by
  rw [ByteArray.toList_eq, ByteArray.toList_eq]
  by_cases h : a = b
  · subst h; simp
  · rw [decide_eq_false h]
    exact beq_eq_false_iff_ne.2 h
theorem ba_app (a b : List UInt8) : (⟨a.toArray⟩ : ByteArray) ++ ⟨b.toArray⟩ = ⟨(a ++ b).toArray⟩ := by
  apply ByteArray.ext
  rw [ByteArray.data_append]
  simp
theorem ba_size (a : List UInt8) : (⟨a.toArray⟩ : ByteArray).size = a.length := rfl
theorem all8 {p : UInt8 → Prop} (h : ∀ m : Fin 256, p (UInt8.ofNat m.val)) (c : UInt8) : p c := by
  have := h ⟨c.toNat, c.toNat_lt⟩
  simpa using this
theorem ba_get (s : List UInt8) (i : Nat) (h : i < s.length) : (⟨s.toArray⟩ : ByteArray)[i]?.getD 0 = s.getD i 0 := by
  have h' : i < (⟨s.toArray⟩ : ByteArray).size := by rw [ba_size]; exact h
  have e : (⟨s.toArray⟩ : ByteArray)[i]? = some (s[i]) := by
    exact getElem?_pos (⟨s.toArray⟩ : ByteArray) i h'
  rw [e]; simp [h]
theorem ba_take (l : List UInt8) (n : Nat) : (⟨l.toArray⟩ : ByteArray).extract 0 n = ⟨(l.take n).toArray⟩ := by
  apply ByteArray.ext
  rw [ByteArray.data_extract]
  simp [List.extract_eq_take_drop]
end Go.Mg
