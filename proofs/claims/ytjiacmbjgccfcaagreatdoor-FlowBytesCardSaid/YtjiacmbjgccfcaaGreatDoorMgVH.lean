/- flow: the laws' spoil gives some workflow again. -/
import Derived.Test.YtjiacmbjgccfcaaGreatDoorMgVE
import Derived.Test.YtjiacmbjgccfcaaGreatDoorMgTvr
namespace Go.Mg
open Go Go.RowKit
set_option linter.unusedSimpArgs false
set_option linter.unusedVariables false
set_option maxRecDepth 100000
structure SpN where
  d : UInt8
  a : Int
  b : Int
  nm : List UInt8
def encX (x : SpN) : List Value := [.int .u8 x.d.toNat, .int .i64 x.a, .int .i64 x.b, sV x.nm]
structure SmK (k : Nat) (F : FlN) : Prop where
  st : F.st.length ≤ k
  be : F.be.length ≤ k
  di : F.di.length ≤ k
  sa : F.sa.length ≤ k
  mo : F.mo.length ≤ k
structure SpI (k : Nat) (f : Fr) (A : Hp) (b2 b3 b6 : Nat) (F : FlN) (x : SpN) (s b d a m : Value) : Prop where
  h2 : f 2 = .pointer (some ⟨b2, 0, none⟩)
  h3 : f 3 = .pointer (some ⟨b3, 0, none⟩)
  h5 : f 5 = .int .i64 (F.st.length : Int)
  h6 : f 6 = .pointer (some ⟨b6, 0, none⟩)
  B2 : Bl A b2 [s, b, d, a, m]
  B3 : Bl A b3 (encX x)
  B6 : Bl A b6 [.int .i64 x.a, .int .i64 x.b]
  S : SlE encS 2 A s F.st
  Pb : SlP A b F.be
  Pd : SlP A d F.di
  Pa : SlP A a F.sa
  M : SlE encM 2 A m F.mo
  n3 : b3 ≠ b2
  n6 : b6 ≠ b2
  sm : SmK k F
  k1 : k ≤ 1000
  ne : F.st ≠ []
  o : ∀ c ∈ [s, b, d, a, m], ∀ q, slB c q → q ≠ b2
theorem SpI.w {k : Nat} {f : Fr} {A : Hp} {b2 b3 b6 : Nat} {F : FlN} {x : SpN} {s b d a m : Value} (h : SpI k f A b2 b3 b6 F x s b d a m) : ∀ c ∈ [s, b, d, a, m], ∀ q, slB c q → ¬ (q = b2 ∨ A.size ≤ q) := by
  intro c hc q hq
  have hne := h.o c hc q hq
  have : q < A.size := by
    simp only [List.mem_cons, List.not_mem_nil, or_false] at hc
    rcases hc with rfl | rfl | rfl | rfl | rfl
    · exact h.S.old hq
    · exact h.Pb.old hq
    · exact h.Pd.old hq
    · exact h.Pa.old hq
    · exact h.M.old hq
  omega
theorem SpI.old {k : Nat} {f : Fr} {A : Hp} {b2 b3 b6 : Nat} {F : FlN} {x : SpN} {s b d a m : Value} (h : SpI k f A b2 b3 b6 F x s b d a m) {cs : List Value} {v : Value} (hcs : ∀ c ∈ cs, c = v ∨ c ∈ [s, b, d, a, m]) (hv : ∀ q, slB v q → (∃ c0 ∈ [s, b, d, a, m], slB c0 q) ∨ A.size ≤ q) : ∀ c ∈ cs, ∀ q, slB c q → (∃ c0 ∈ [s, b, d, a, m], slB c0 q) ∨ A.size ≤ q := fun c hc q hq => by
  rcases hcs c hc with rfl | h'
  · exact hv q hq
  · exact .inl ⟨c, h', hq⟩
theorem SpI.cl {P : Program} {j : FuncId} (hc : ClnSpec encS P j) {k : Nat} {f : Fr} {A : Hp} {b2 b3 b6 : Nat} {F : FlN} {x : SpN} {s b d a m : Value} (h : SpI k f A b2 b3 b6 F x s b d a m) {Kp : Value → Hp → Prop}
    (hK : ∀ v A2, OwE encS 2 A2 v F.st → (∀ q, ownB v q → A.size ≤ q) → Keep (fun _ => False) A A2 → OwE encS 2 (setc A2 ⟨b2, 0, none⟩ v) v F.st → Bl (setc A2 ⟨b2, 0, none⟩ v) b2 [v, b, d, a, m] → Keep (fun q => q = b2 ∨ A.size ≤ q) A (setc A2 ⟨b2, 0, none⟩ v) → Keep (fun q => q = b2) A2 (setc A2 ⟨b2, 0, none⟩ v) → Kp v A2) : CallsM P j #[s] A Kp := by
  have hk := h.sm.st
  have hk1 := h.k1
  have hb2 := h.B2.lt
  refine (hc F.st s A h.S (by omega)).mono fun v A2 ⟨O, o, K2⟩ => ?_
  have k3 : Keep (fun q => q = b2) A2 (setc A2 ⟨b2, 0, none⟩ v) := (Keep.refl _ _).setc _ (.inl rfl)
  refine hK v A2 O o K2 (O.keep k3 fun q hq e => ?_) ((K2.bl h.B2 (by simp)).setc 0 v) (K2.any.trans (k3.mono fun q _ e => .inl e)) k3
  have := o q hq
  omega
theorem all1_cs {cs : Array Value} (h : all1 cs) : cs.toList.all (fun v => v.oneCell') = true := List.all_eq_true.2 h
theorem RefFl.cs {H : Hp} {v : Value} {F : FlN} (h : RefFl H v F) : ∃ cs : List Value, v = .agg cs.toArray ∧ cs.length = 5 ∧ (cs.all fun v => v.oneCell') = true := by
  have h0 := h
  obtain ⟨s, b, d, a, m, rfl, _⟩ := h
  exact ⟨[s, b, d, a, m], rfl, rfl, all1_cs h0.all1⟩
end Go.Mg
