/- flow: the law Equals. -/
import Derived.Test.YtjiacmbjgccfcaaDoorMgVK
namespace Go.Mg
open Go Go.RowKit
set_option linter.unusedSimpArgs false
set_option linter.unusedVariables false
set_option maxRecDepth 100000
def c_etl (ι : Ids) : T :=
  (.wcons .no .none (.stn 5 (.v 7) (.t 18)) (.wcons .no .none (.stn 5 (.v 8) (.t 20)) .done .wnil) .wnil)
def c_mk2 (ι : Ids) : S :=
  (.dr (.px (.t 17) .none (.m (.ldn 7 (.v 3))) (.px (.t 19) .none (.m (.ldn 7 (.v 4))) (.wcons (.t 18) .none (.call (ι.f 292) [.t 17]) (.wcons (.t 20) .none (.call (ι.f 292) [.t 19]) (.wcons (.v 7)
  .none (.new (ι.t 289) #[.slice .none 0 0, .slice .none 0 0, .slice .none 0 0, .slice .none 0 0, .slice .none 0 0]) (.wcons (.v 8) .none (.new (ι.t 289) #[.slice .none 0 0, .slice .none 0 0, .slice
  .none 0 0, .slice .none 0 0, .slice .none 0 0]) (c_etl ι) .wnil) (.wcons (.v 8) .none (.new (ι.t 289) #[.slice .none 0 0, .slice .none 0 0, .slice .none 0 0, .slice .none 0 0, .slice .none 0 0])
  (.wcons (.v 7) .none (.new (ι.t 289) #[.slice .none 0 0, .slice .none 0 0, .slice .none 0 0, .slice .none 0 0, .slice .none 0 0]) (c_etl ι) .wnil) .wnil)) (.wcons (.v 7) .none (.new (ι.t 289) #[.slice
  .none 0 0, .slice .none 0 0, .slice .none 0 0, .slice .none 0 0, .slice .none 0 0]) (.wcons (.t 20) .none (.call (ι.f 292) [.t 19]) (.wcons (.v 8) .none (.new (ι.t 289) #[.slice .none 0 0, .slice
  .none 0 0, .slice .none 0 0, .slice .none 0 0, .slice .none 0 0]) (c_etl ι) .wnil) (.wcons (.v 8) .none (.new (ι.t 289) #[.slice .none 0 0, .slice .none 0 0, .slice .none 0 0, .slice .none 0 0, .slice
  .none 0 0]) (.wcons (.t 20) .none (.call (ι.f 292) [.t 19]) (c_etl ι) .wnil) .wnil)) (.wcons (.v 8) .none (.new (ι.t 289) #[.slice .none 0 0, .slice .none 0 0, .slice .none 0 0, .slice .none 0 0,
  .slice .none 0 0]) (.wcons (.t 20) .none (.call (ι.f 292) [.t 19]) (.wcons (.v 7) .none (.new (ι.t 289) #[.slice .none 0 0, .slice .none 0 0, .slice .none 0 0, .slice .none 0 0, .slice .none 0 0])
  (c_etl ι) .wnil) (.wcons (.v 7) .none (.new (ι.t 289) #[.slice .none 0 0, .slice .none 0 0, .slice .none 0 0, .slice .none 0 0, .slice .none 0 0]) (.wcons (.t 20) .none (.call (ι.f 292) [.t 19])
  (c_etl ι) .wnil) .wnil)) .wnil))) (.wcons (.v 7) .none (.new (ι.t 289) #[.slice .none 0 0, .slice .none 0 0, .slice .none 0 0, .slice .none 0 0, .slice .none 0 0]) (.wcons (.t 18) .none (.call (ι.f
  292) [.t 17]) (.wcons (.t 20) .none (.call (ι.f 292) [.t 19]) (.wcons (.v 8) .none (.new (ι.t 289) #[.slice .none 0 0, .slice .none 0 0, .slice .none 0 0, .slice .none 0 0, .slice .none 0 0]) (c_etl
  ι) .wnil) (.wcons (.v 8) .none (.new (ι.t 289) #[.slice .none 0 0, .slice .none 0 0, .slice .none 0 0, .slice .none 0 0, .slice .none 0 0]) (.wcons (.t 20) .none (.call (ι.f 292) [.t 19]) (c_etl ι)
  .wnil) .wnil)) (.wcons (.v 8) .none (.new (ι.t 289) #[.slice .none 0 0, .slice .none 0 0, .slice .none 0 0, .slice .none 0 0, .slice .none 0 0]) (.wcons (.t 18) .none (.call (ι.f 292) [.t 17]) (.wcons
  (.t 20) .none (.call (ι.f 292) [.t 19]) (c_etl ι) .wnil) .wnil) .wnil)) (.wcons (.v 8) .none (.new (ι.t 289) #[.slice .none 0 0, .slice .none 0 0, .slice .none 0 0, .slice .none 0 0, .slice .none 0
  0]) (.wcons (.t 18) .none (.call (ι.f 292) [.t 17]) (.wcons (.t 20) .none (.call (ι.f 292) [.t 19]) (.wcons (.v 7) .none (.new (ι.t 289) #[.slice .none 0 0, .slice .none 0 0, .slice .none 0 0, .slice
  .none 0 0, .slice .none 0 0]) (c_etl ι) .wnil) (.wcons (.v 7) .none (.new (ι.t 289) #[.slice .none 0 0, .slice .none 0 0, .slice .none 0 0, .slice .none 0 0, .slice .none 0 0]) (.wcons (.t 20) .none
  (.call (ι.f 292) [.t 19]) (c_etl ι) .wnil) .wnil)) (.wcons (.v 7) .none (.new (ι.t 289) #[.slice .none 0 0, .slice .none 0 0, .slice .none 0 0, .slice .none 0 0, .slice .none 0 0]) (.wcons (.t 18)
  .none (.call (ι.f 292) [.t 17]) (.wcons (.t 20) .none (.call (ι.f 292) [.t 19]) (c_etl ι) .wnil) .wnil) .wnil)) .wnil))))))
def c_est (ι : Ids) : S :=
  (.seq (.reg [.p (.t 28) (.fa 0 (.v 7)), .p (.t 29) (.ld (.t 28)), .p (.t 30) (.fa 0 (.v 8)), .p (.t 31) (.ld (.t 30)), .e (.t 32) (.call (ι.f 334) [.t 29, .t 31]), .p (.t 33) (.mv (.t 32)), .gp (.t
  34) (.t 33) true (.fa 1 (.v 7)), .gp (.t 35) (.t 33) true (.ld (.t 34)), .gp (.t 36) (.t 33) true (.fa 1 (.v 8)), .gp (.t 37) (.t 33) true (.ld (.t 36)), .ge (.t 38) (.t 33) true (.call (ι.f 229) [.t
  35, .t 37]), .p (.t 39) (.pick (.t 33) (.t 38) (.c (.bool false))), .p (.t 40) (.mv (.t 39)), .gp (.t 41) (.t 40) true (.fa 2 (.v 7)), .gp (.t 42) (.t 40) true (.ld (.t 41)), .gp (.t 43) (.t 40) true
  (.fa 2 (.v 8)), .gp (.t 44) (.t 40) true (.ld (.t 43)), .ge (.t 45) (.t 40) true (.call (ι.f 229) [.t 42, .t 44]), .p (.t 46) (.pick (.t 40) (.t 45) (.c (.bool false))), .p (.t 47) (.mv (.t 46)), .gp
  (.t 48) (.t 47) true (.fa 3 (.v 7)), .gp (.t 49) (.t 47) true (.ld (.t 48)), .gp (.t 50) (.t 47) true (.fa 3 (.v 8)), .gp (.t 51) (.t 47) true (.ld (.t 50)), .ge (.t 52) (.t 47) true (.call (ι.f 229)
  [.t 49, .t 51]), .p (.t 53) (.pick (.t 47) (.t 52) (.c (.bool false))), .p (.t 54) (.mv (.t 53)), .gp (.t 55) (.t 54) true (.fa 4 (.v 7)), .gp (.t 56) (.t 54) true (.ld (.t 55)), .gp (.t 57) (.t 54)
  true (.fa 4 (.v 8)), .gp (.t 58) (.t 54) true (.ld (.t 57)), .ge (.t 59) (.t 54) true (.call (ι.f 335) [.t 56, .t 58]), .p (.t 60) (.pick (.t 54) (.t 59) (.c (.bool false))), .p (.v 9) (.mv (.t 60))])
  (.seq (.dr (.px (.t 61) .none (.m (.ldn 5 (.v 7))) (.px (.t 63) .none (.m (.ldn 5 (.v 8))) (.px (.t 66) .none (.mv (.v 9)) (.wcons (.t 62) .none (.call (ι.f 299) [.t 61]) (.wcons (.t 64) .none (.call
  (ι.f 299) [.t 63]) (.wcons (.t 65) .none (.call (ι.f 333) [.t 62, .t 64]) (.px (.t 67) .none (.eqb false (.t 65) (.t 66)) (.px (.t 68) .none (.mv (.t 67)) (.px (.t 69) (.some (.t 68, true)) (.m (.ldn
  5 (.v 8))) (.px (.t 71) (.some (.t 68, true)) (.m (.ldn 5 (.v 7))) (.px (.t 74) (.some (.t 68, true)) (.mv (.v 9)) (.wcons (.t 70) (.some (.t 68, true)) (.call (ι.f 299) [.t 69]) (.wcons (.t 72)
  (.some (.t 68, true)) (.call (ι.f 299) [.t 71]) (.wcons (.t 73) (.some (.t 68, true)) (.call (ι.f 333) [.t 70, .t 72]) (.px (.t 75) (.some (.t 68, true)) (.eqb false (.t 73) (.t 74)) (.px (.t 76)
  .none (.pick (.t 68) (.t 75) (.c (.bool false))) (.px (.t 77) .none (.mv (.t 76)) (.px (.t 78) (.some (.t 77, true)) (.m (.ldn 5 (.v 7))) (.px (.t 80) (.some (.t 77, true)) (.m (.ldn 5 (.v 7)))
  (.wcons (.t 79) (.some (.t 77, true)) (.call (ι.f 299) [.t 78]) (.wcons (.t 81) (.some (.t 77, true)) (.call (ι.f 299) [.t 80]) (.wcons (.t 82) (.some (.t 77, true)) (.call (ι.f 333) [.t 79, .t 81])
  (.px (.t 83) .none (.pick (.t 77) (.t 82) (.c (.bool false))) (.px (.v 6) .none (.mv (.t 83)) .done)) .wnil) .wnil) .wnil)))))) .wnil) .wnil) .wnil)))))) .wnil) .wnil) .wnil))))) .ret))
def c_esp (ι : Ids) : S :=
  (.seq (.seq (.reg [.p (.t 21) (.fa 1 (.v 5)), .p (.t 22) (.ld (.t 21)), .p (.t 23) (.dv .rem .i64 (.t 22) (.c (.int .i64 3))), .p (.v 24) (.cm .eql .i64 (.t 23) (.c (.int .i64 2)))]) (.ite (.v 24)
  (.reg [.p (.t 25) (.m (.ldn 5 (.v 8))), .p (.t 26) (.m (.ldn 4 (.v 5))), .e (.t 27) (.call (ι.f 328) [.t 25, .t 26]), .e .no (.stn 5 (.v 8) (.t 27))]) .skip)) (c_est ι))
def c_emd (ι : Ids) : S :=
  (.seq (c_mk2 ι) (c_esp ι))
def c_lfeq (ι : Ids) : S :=
  .seq (.reg [.e (.v 3) (.box (ι.t 288) (.v 0)), .e (.v 4) (.box (ι.t 288) (.v 1)), .e (.v 5) (.box (ι.t 327) (.v 2)), .p (.v 6) (.mv (.c (.bool false)))]) (.seq (.seq (.reg [.e (.t 10) (.call (ι.f 323)
  []), .p (.v 11) (.not (.t 10))]) (.ite (.v 11) (.seq (.reg [.p (.v 6) (.mv (.c (.bool false)))]) .ret) .skip)) (.seq (.seq (.reg [.p (.t 12) (.fa 1 (.v 5)), .p (.t 13) (.ld (.t 12)), .p (.t 14) (.dv
  .rem .i64 (.t 13) (.c (.int .i64 3))), .p (.v 15) (.cm .neq .i64 (.t 14) (.c (.int .i64 0)))]) (.ite (.v 15) (.reg [.p (.t 16) (.m (.ldn 7 (.v 3))), .e .no (.stn 7 (.v 4) (.t 16))]) .skip)) (c_emd
  ι)))
def r_lfeq : List RV := [.t 6]
theorem RefFl.old {H : Hp} {v : Value} {F : FlN} (h : RefFl H v F) {q : Nat} (hq : flB v q) : q < H.size := by
  obtain ⟨s, b, d, a, m, rfl, h1, h2, h3, h4, h5⟩ := h
  obtain ⟨c, hc, hq⟩ := hq
  have hc : c ∈ [s, b, d, a, m] := hc
  simp only [List.mem_cons, List.not_mem_nil, or_false] at hc
  rcases hc with rfl | rfl | rfl | rfl | rfl
  · exact h1.old hq
  · exact h2.old hq
  · exact h3.old hq
  · exact h4.old hq
  · exact h5.old hq
structure LEC (P : Program) (ι : Ids) : Prop where
  aw : FAwkSpec P ι (ι.f 323)
  mak : RMakSpec P (ι.f 292)
  flo : LFlowSpec P (ι.f 299)
  spo : SpoilSpec P (ι.f 328)
  eq : FEqSpec P (ι.f 333)
  eS : EqESpec encS P (ι.f 334)
  eP : EqESpec pE P (ι.f 229)
  eO : EqESpec encM P (ι.f 335)
structure StE (H A : Hp) (vs : List (Value × FlN)) (bs : List Nat) : Prop where
  k : Keep (fun _ => False) H A
  v : ∀ p ∈ vs, RefFl A p.1 p.2
  b : ∀ b ∈ bs, Bl A b [.slice none 0 0, .slice none 0 0, .slice none 0 0, .slice none 0 0, .slice none 0 0] ∧ H.size ≤ b
  vb : ∀ p ∈ vs, ∀ b ∈ bs, ¬ flB p.1 b
  n : bs.Nodup
theorem StE.call {P : Program} {j : FuncId} (hm : RMakSpec P j) {H A : Hp} {vs : List (Value × FlN)} {bs : List Nat} (h : StE H A vs bs) {r : RawF} {x : Value} (hx : RawFV H x r) {W : Nat → Prop} {K : Value → Hp → Prop} (hK : ∀ v A', StE H A' ((v, mkF r) :: vs) bs → Keep W A A' → K v A') : CallsM P j #[x] A K := by
  refine (hm r x A (hx.keep0 h.k)).mono fun v A' ⟨R, o, K'⟩ => hK v A' ⟨h.k.trans K', fun p hp => ?_, fun b hb => ⟨K'.bl (h.b b hb).1 (by simp), (h.b b hb).2⟩, fun p hp b hb hq => ?_, h.n⟩ K'.any
  · rcases List.mem_cons.1 hp with rfl | hp
    · exact R
    · exact (h.v p hp).keep0 K'
  · rcases List.mem_cons.1 hp with rfl | hp
    · have := o b hq; have := (h.b b hb).1.lt; omega
    · exact h.vb p hp b hb hq
theorem StE.new {H A : Hp} {vs : List (Value × FlN)} {bs : List Nat} (h : StE H A vs bs) (W : Nat → Prop) (T : TypeId) : Keep W A (A.push (.cells #[.slice none 0 0, .slice none 0 0, .slice none 0 0, .slice none 0 0, .slice none 0 0] T)) ∧ StE H (A.push (.cells #[.slice none 0 0, .slice none 0 0, .slice none 0 0, .slice none 0 0, .slice none 0 0] T)) vs (A.size :: bs) := by
  have K' := (Keep.refl (fun _ => False) A).push (.cells #[.slice none 0 0, .slice none 0 0, .slice none 0 0, .slice none 0 0, .slice none 0 0] T)
  refine ⟨K'.any, h.k.trans K', fun p hp => (h.v p hp).keep0 K', fun b hb => ?_, fun p hp b hb hq => ?_, List.nodup_cons.2 ⟨fun hb => ?_, h.n⟩⟩
  · rcases List.mem_cons.1 hb with rfl | hb
    · exact ⟨Bl.new' _ _ _, h.k.size⟩
    · exact ⟨K'.bl (h.b b hb).1 (by simp), (h.b b hb).2⟩
  · rcases List.mem_cons.1 hb with rfl | hb
    · have := (h.v p hp).old hq; omega
    · exact h.vb p hp b hb hq
  · have := (h.b _ hb).1.lt; omega
theorem StE.callT {P : Program} {j : FuncId} (hm : RMakSpec P j) {H A : Hp} {vs : List (Value × FlN)} {bs : List Nat} (h : StE H A vs bs) {r : RawF} {x : Value} (hx : RawFV H x r) {W : Nat → Prop} {d a : Nat} {t m : T} {e : Env} {f : Fr} {Q} (he : look e a = x)
    (hK : ∀ v A', StE H A' ((v, mkF r) :: vs) bs → tvk P W t ((d, v) :: e) f A' Q) (hm' : tvk P W m e f A Q) : tvk P W (.wcons (.t d) none (.call j [.t a]) t m) e f A Q := by
  rw [tvk_w]
  refine ⟨?_, hm'⟩
  simp only [EX.wp, List.map_cons, List.map_nil, rd_t, he]
  exact h.call hm hx fun v A' h' k => ⟨k, hK v A' h'⟩
theorem StE.newT {P : Program} {H A : Hp} {vs : List (Value × FlN)} {bs : List Nat} (h : StE H A vs bs) {W : Nat → Prop} {d : Nat} {T : TypeId} {t m : Mg.T} {e : Env} {f : Fr} {Q}
    (hK : ∀ b A', StE H A' vs (b :: bs) → tvk P W t e (upd f d (.pointer (some ⟨b, 0, none⟩))) A' Q) (hm' : tvk P W m e f A Q) : tvk P W (.wcons (.v d) none (.new T #[.slice none 0 0, .slice none 0 0, .slice none 0 0, .slice none 0 0, .slice none 0 0]) t m) e f A Q := by
  rw [tvk_w]
  exact ⟨⟨(h.new W T).1, hK _ _ (h.new W T).2⟩, hm'⟩
def Mk2K (P : Program) (f : Fr) (A : Hp) (F G : FlN) (Qb : Ex → Fr → Hp → Prop) : Prop := ∀ f' A' b7 b8 cs7 cs8, f' 5 = f 5 → f' 7 = .pointer (some ⟨b7, 0, none⟩) → f' 8 = .pointer (some ⟨b8, 0, none⟩) → Bl A' b7 cs7 → Bl A' b8 cs8 → cs7.length = 5 → cs8.length = 5 → RefFl A' (.agg cs7.toArray) F → RefFl A' (.agg cs8.toArray) G →
  b7 ≠ b8 → (∀ q, flB (.agg cs7.toArray) q → q ≠ b8) → (∀ q, flB (.agg cs8.toArray) q → q ≠ b8) → A.size ≤ b8 → Keep (fun _ => False) A A' → Qb .n f' A'
theorem etl_ok {P : Program} {ι : Ids} {f : Fr} {H A : Hp} {e : Env} {g : Fr} {F G : FlN} {vs : List (Value × FlN)} {bs : List Nat} {b7 b8 : Nat} {v1 v2 : Value} {Qb : Ex → Fr → Hp → Prop} (hK : Mk2K P f H F G Qb) (h : StE H A vs bs) (g5 : g 5 = f 5) (g7 : g 7 = .pointer (some ⟨b7, 0, none⟩)) (g8 : g 8 = .pointer (some ⟨b8, 0, none⟩)) (e1 : look e 18 = v1) (e2 : look e 20 = v2) (m1 : (v1, F) ∈ vs) (m2 : (v2, G) ∈ vs) (hbs : bs = [b7, b8] ∨ bs = [b8, b7]) :
    tvk P (fun q => H.size ≤ q) (c_etl ι) e g A (Qb .n) := by
  unfold c_etl
  have R1 : RefFl A v1 F := h.v _ m1
  have R2 : RefFl A v2 G := h.v _ m2
  have m7 : b7 ∈ bs := by rcases hbs with rfl | rfl <;> simp
  have m8 : b8 ∈ bs := by rcases hbs with rfl | rfl <;> simp
  have hne : b7 ≠ b8 := by
    have := h.n
    rcases hbs with rfl | rfl
    · simpa using this
    · simp at this; omega
  obtain ⟨B7, o7⟩ := h.b _ m7
  obtain ⟨B8, o8⟩ := h.b _ m8
  have n17 := h.vb _ m1 _ m7
  have n18 := h.vb _ m1 _ m8
  have n27 := h.vb _ m2 _ m7
  have n28 := h.vb _ m2 _ m8
  obtain ⟨cs7, rfl, l7, a7⟩ := R1.cs
  obtain ⟨cs8, rfl, l8, a8⟩ := R2.cs
  have t7 := B7.okNA (o := 0) (n := 5) (by simp)
  have K1 : Keep (fun q => q = b7) A (stNA A ⟨b7, 0, none⟩ cs7) := (Keep.refl _ _).stNA _ (.inl rfl)
  have C7 := B7.stNA 0 cs7
  rw [wrL_all _ _ (by simp [l7])] at C7
  have D8 := K1.bl B8 (fun h => hne h.symm)
  have t8 := D8.okNA (o := 0) (n := 5) (by simp)
  have K2 : Keep (fun q => q = b8) (stNA A ⟨b7, 0, none⟩ cs7) (stNA (stNA A ⟨b7, 0, none⟩ cs7) ⟨b8, 0, none⟩ cs8) := (Keep.refl _ _).stNA _ (.inl rfl)
  have C8 := D8.stNA 0 cs8
  rw [wrL_all _ _ (by simp [l8])] at C8
  have D7 := K2.bl C7 hne
  have a7' := all1_of a7
  have a8' := all1_of a8
  simp -implicitDefEqProofs only [go_sem, zS, ↓reduceIte, Nat.reduceEqDiff, Nat.reduceAdd, Nat.reduceMul, reduceCtorEq, kont_eq, zU, zV, Int.reduceBEq, Int.reduceBNe, Int.reduceLE, Int.reduceLT, Nat.reduceLeDiff, Nat.reduceLT, zF, g7, g8, e1, e2, t7, t8]
  refine ⟨⟨l7, a7'⟩, K1.mono fun q _ hq => by omega, ⟨l8, a8'⟩, K2.mono fun q _ hq => by omega, ?_⟩
  refine hK _ _ b7 b8 cs7 cs8 g5 g7 g8 D7 C8 l7 l8 ((R1.keep K1 fun q hq e => n17 (e ▸ hq)).keep K2 fun q hq e => n18 (e ▸ hq)) ((R2.keep K1 fun q hq e => n27 (e ▸ hq)).keep K2 fun q hq e => n28 (e ▸ hq)) hne (fun q hq e => n18 (e ▸ hq)) (fun q hq e => n28 (e ▸ hq)) o8 ?_
  exact (h.k.trans' K1 fun q hq e => by omega).trans' K2 fun q hq e => by omega
theorem mk2_ok {P : Program} {ι : Ids} (hm : RMakSpec P (ι.f 292)) {f : Fr} {A : Hp} {b3 b4 : Nat} {cs3 cs4 : List Value} {x y : RawF} {Qb : Ex → Fr → Hp → Prop} (h3 : f 3 = .pointer (some ⟨b3, 0, none⟩)) (h4 : f 4 = .pointer (some ⟨b4, 0, none⟩)) (B3 : Bl A b3 cs3) (B4 : Bl A b4 cs4) (l3 : cs3.length = 7) (l4 : cs4.length = 7) (hx : RawFV A (.agg cs3.toArray) x) (hy : RawFV A (.agg cs4.toArray) y)
    (hK : Mk2K P f A (mkF x) (mkF y) Qb) : vc P (c_mk2 ι) Qb f A := by
  unfold c_mk2
  refine vc_drk (fun q => A.size ≤ q) ?_
  have s3 := B3.lt
  have s4 := B4.lt
  simp only [tvk_px, stabX_ldn, PX.pre, PX.val, PM.pre, PM.val, rd_v, h3, h4, ldS_ptr, env_t, fr_t, B3.ldNO 7 l3.symm, B4.ldNO 7 l4.symm, Option.isSome_some, Option.getD_some, and_true]
  refine ⟨by omega, by omega, ?_⟩
  have h0 : StE A A [] [] := ⟨Keep.refl _ _, by simp, by simp, by simp, by simp⟩
  repeat' (first | exact trivial | exact etl_ok hK (by assumption) rfl rfl rfl rfl rfl (by first | exact .head _ | exact .tail _ (.head _)) (by first | exact .head _ | exact .tail _ (.head _)) (by first | exact .inl rfl | exact .inr rfl) | refine StE.newT (by assumption) (fun _ _ _ => ?_) ?_ | refine StE.callT hm (by assumption) hx rfl (fun _ _ _ => ?_) ?_ | refine StE.callT hm (by assumption) hy rfl (fun _ _ _ => ?_) ?_)
theorem feqB_comm (F G : FlN) : feqB F G = feqB G F := by
  rw [Bool.eq_iff_iff, feqB_iff, feqB_iff]; exact eq_comm
theorem feqB_self (F : FlN) : feqB F F = true := feqB_iff.2 rfl
theorem SmallF.of {F : FlN} {k : Nat} (h : SmK k F) (hk : k ≤ 1000) : SmallF F := ⟨by have := h.st; omega, by have := h.be; omega, by have := h.di; omega, by have := h.sa; omega, by have := h.mo; omega⟩
theorem SmK.le {F : FlN} {k m : Nat} (h : SmK k F) (hk : k ≤ m) : SmK m F := ⟨Nat.le_trans h.st hk, Nat.le_trans h.be hk, Nat.le_trans h.di hk, Nat.le_trans h.sa hk, Nat.le_trans h.mo hk⟩
theorem est_ok {P : Program} {ι : Ids} (c : LEC P ι) {f : Fr} {A : Hp} {b7 b8 : Nat} {cs7 cs8 : List Value} {F G : FlN} {Q : Value → Hp → Prop} (g7 : f 7 = .pointer (some ⟨b7, 0, none⟩)) (g8 : f 8 = .pointer (some ⟨b8, 0, none⟩)) (B7 : Bl A b7 cs7) (B8 : Bl A b8 cs8) (R7 : RefFl A (.agg cs7.toArray) F) (R8 : RefFl A (.agg cs8.toArray) G) (s7 : SmK 50 F) (s8 : SmK 50 G)
    (hK : ∀ A', Keep (fun _ => False) A A' → Q (.bool true) A') : vc P (c_est ι) (retQ [.t 6] Q) f A := by
  unfold c_est
  rw [vc_seq]
  have R7' := R7
  have R8' := R8
  obtain ⟨s, b, d, a, m, e7, h1, h2, h3, h4, h5⟩ := R7
  obtain ⟨s', b', d', a', m', e8, k1, k2, k3, k4, k5⟩ := R8
  have e7 : cs7 = [s, b, d, a, m] := by simpa using congrArg (fun v : Value => match v with | .agg c => c.toList | _ => []) e7
  have e8 : cs8 = [s', b', d', a', m'] := by simpa using congrArg (fun v : Value => match v with | .agg c => c.toList | _ => []) e8
  subst e7 e8
  refine vc_mono (Q := fun e f' A' => e = .n ∧ f' 7 = f 7 ∧ f' 8 = f 8 ∧ f' 9 = .bool (feqB F G) ∧ A' = A) ?_ ?_
  · rintro e f' A' ⟨rfl, q7, q8, q9, rfl⟩
    rw [g7] at q7
    rw [g8] at q8
    simp only [thenQ_n, vc_seq]
    refine vc_drk (fun _ => False) ?_
    have hF := SmallF.of s7 (by omega)
    have hG := SmallF.of s8 (by omega)
    have mF := s7.le (show 50 ≤ 1000 by omega)
    have mG := s8.le (show 50 ≤ 1000 by omega)
    simp -implicitDefEqProofs only [go_sem, zS, ↓reduceIte, Nat.reduceEqDiff, Nat.reduceAdd, Nat.reduceMul, reduceCtorEq, kont_eq, zU, zV, Int.reduceBEq, Int.reduceBNe, Int.reduceLE, Int.reduceLT, Nat.reduceLeDiff, Nat.reduceLT, zF, q7, q8, q9, B7.ldNO 5 rfl, B8.ldNO 5 rfl]
    refine (c.flo F _ A' R7' hF).mono ?_
    rintro v1 A1 ⟨O1, K1⟩
    have P1 := O1.fl
    simp -implicitDefEqProofs only [go_sem, zS, ↓reduceIte, Nat.reduceEqDiff, Nat.reduceAdd, Nat.reduceMul, reduceCtorEq, kont_eq, zU, zV, Int.reduceBEq, Int.reduceBNe, Int.reduceLE, Int.reduceLT, Nat.reduceLeDiff, Nat.reduceLT, zF]
    refine ⟨K1, (c.flo G _ A1 (R8'.keep0 K1) hG).mono ?_⟩
    rintro v2 A2 ⟨O2, K2⟩
    have P2 := O2.fl
    have P1 := P1.keep0 K2
    have K02 := K1.trans K2
    simp -implicitDefEqProofs only [go_sem, zS, ↓reduceIte, Nat.reduceEqDiff, Nat.reduceAdd, Nat.reduceMul, reduceCtorEq, kont_eq, zU, zV, Int.reduceBEq, Int.reduceBNe, Int.reduceLE, Int.reduceLT, Nat.reduceLeDiff, Nat.reduceLT, zF]
    refine ⟨K2, (c.eq F G v1 v2 A2 P1 P2 mF mG).mono ?_⟩
    rintro r A3 ⟨rfl, K3⟩
    have K03 := K02.trans K3
    simp -implicitDefEqProofs only [go_sem, zS, ↓reduceIte, Nat.reduceEqDiff, Nat.reduceAdd, Nat.reduceMul, reduceCtorEq, kont_eq, zU, zV, Int.reduceBEq, Int.reduceBNe, Int.reduceLE, Int.reduceLT, Nat.reduceLeDiff, Nat.reduceLT, zF, q7, q8, q9, (K03.bl B7 (by simp)).ldNO 5 rfl, (K03.bl B8 (by simp)).ldNO 5 rfl, forall_const]
    refine ⟨K3, (c.flo G _ A3 (R8'.keep0 K03) hG).mono ?_⟩
    rintro v3 A4 ⟨O3, K4⟩
    have P3 := O3.fl
    simp -implicitDefEqProofs only [go_sem, zS, ↓reduceIte, Nat.reduceEqDiff, Nat.reduceAdd, Nat.reduceMul, reduceCtorEq, kont_eq, zU, zV, Int.reduceBEq, Int.reduceBNe, Int.reduceLE, Int.reduceLT, Nat.reduceLeDiff, Nat.reduceLT, zF, forall_const]
    refine ⟨K4, (c.flo F _ A4 (R7'.keep0 (K03.trans K4)) hF).mono ?_⟩
    rintro v4 A5 ⟨O4, K5⟩
    have P4 := O4.fl
    have P3 := P3.keep0 K5
    have K05 := (K03.trans K4).trans K5
    simp -implicitDefEqProofs only [go_sem, zS, ↓reduceIte, Nat.reduceEqDiff, Nat.reduceAdd, Nat.reduceMul, reduceCtorEq, kont_eq, zU, zV, Int.reduceBEq, Int.reduceBNe, Int.reduceLE, Int.reduceLT, Nat.reduceLeDiff, Nat.reduceLT, zF, forall_const]
    refine ⟨K5, (c.eq G F v3 v4 A5 P3 P4 mG mF).mono ?_⟩
    rintro r A6 ⟨rfl, K6⟩
    have K06 := K05.trans K6
    simp -implicitDefEqProofs only [go_sem, zS, ↓reduceIte, Nat.reduceEqDiff, Nat.reduceAdd, Nat.reduceMul, reduceCtorEq, kont_eq, zU, zV, Int.reduceBEq, Int.reduceBNe, Int.reduceLE, Int.reduceLT, Nat.reduceLeDiff, Nat.reduceLT, zF, q7, q8, q9, (K06.bl B7 (by simp)).ldNO 5 rfl, feqB_comm G F, forall_const]
    refine ⟨K6, (c.flo F _ A6 (R7'.keep0 K06) hF).mono ?_⟩
    rintro v5 A7 ⟨O5, K7⟩
    have P5 := O5.fl
    simp -implicitDefEqProofs only [go_sem, zS, ↓reduceIte, Nat.reduceEqDiff, Nat.reduceAdd, Nat.reduceMul, reduceCtorEq, kont_eq, zU, zV, Int.reduceBEq, Int.reduceBNe, Int.reduceLE, Int.reduceLT, Nat.reduceLeDiff, Nat.reduceLT, zF, forall_const]
    refine ⟨K7, (c.flo F _ A7 (R7'.keep0 (K06.trans K7)) hF).mono ?_⟩
    rintro v6 A8 ⟨O6, K8⟩
    have P6 := O6.fl
    have P5 := P5.keep0 K8
    simp -implicitDefEqProofs only [go_sem, zS, ↓reduceIte, Nat.reduceEqDiff, Nat.reduceAdd, Nat.reduceMul, reduceCtorEq, kont_eq, zU, zV, Int.reduceBEq, Int.reduceBNe, Int.reduceLE, Int.reduceLT, Nat.reduceLeDiff, Nat.reduceLT, zF, forall_const]
    refine ⟨K8, (c.eq F F v5 v6 A8 P5 P6 mF mF).mono ?_⟩
    rintro r A9 ⟨rfl, K9⟩
    simp -implicitDefEqProofs only [go_sem, zS, ↓reduceIte, Nat.reduceEqDiff, Nat.reduceAdd, Nat.reduceMul, reduceCtorEq, kont_eq, zU, zV, Int.reduceBEq, Int.reduceBNe, Int.reduceLE, Int.reduceLT, Nat.reduceLeDiff, Nat.reduceLT, zF, feqB_self]
    exact ⟨K9, hK _ (((K06.trans K7).trans K8).trans K9)⟩
  have c10 : cell A ⟨b7, 0, none⟩ = some s := by rw [B7.cell]; rfl
  have c11 : cell A ⟨b7, 1, none⟩ = some b := by rw [B7.cell]; rfl
  have c12 : cell A ⟨b7, 2, none⟩ = some d := by rw [B7.cell]; rfl
  have c13 : cell A ⟨b7, 3, none⟩ = some a := by rw [B7.cell]; rfl
  have c14 : cell A ⟨b7, 4, none⟩ = some m := by rw [B7.cell]; rfl
  have c20 : cell A ⟨b8, 0, none⟩ = some s' := by rw [B8.cell]; rfl
  have c21 : cell A ⟨b8, 1, none⟩ = some b' := by rw [B8.cell]; rfl
  have c22 : cell A ⟨b8, 2, none⟩ = some d' := by rw [B8.cell]; rfl
  have c23 : cell A ⟨b8, 3, none⟩ = some a' := by rw [B8.cell]; rfl
  have c24 : cell A ⟨b8, 4, none⟩ = some m' := by rw [B8.cell]; rfl
  have q1 := s7.st
  have q2 := s7.be
  have q3 := s7.di
  have q4 := s7.sa
  have q5 := s7.mo
  have p1 := s8.st
  have p2 := s8.be
  have p3 := s8.di
  have p4 := s8.sa
  have p5 := s8.mo
  simp -implicitDefEqProofs only [go_sem, zS, ↓reduceIte, Nat.reduceEqDiff, Nat.reduceAdd, Nat.reduceMul, reduceCtorEq, kont_eq, zU, zV, Int.reduceBEq, Int.reduceBNe, Int.reduceLE, Int.reduceLT, Nat.reduceLeDiff, Nat.reduceLT, zF, g7, g8, c10, c20]
  refine (c.eS _ _ _ _ A h1 k1 (by omega) (by omega)).mono ?_
  rintro r A3 ⟨rfl, rfl⟩
  rw [kont_eq]
  by_cases e1 : F.st = G.st
  case neg =>
    simp -implicitDefEqProofs only [go_sem, zS, ↓reduceIte, Nat.reduceEqDiff, Nat.reduceAdd, Nat.reduceMul, reduceCtorEq, kont_eq, zU, zV, Int.reduceBEq, Int.reduceBNe, Int.reduceLE, Int.reduceLT, Nat.reduceLeDiff, Nat.reduceLT, zF, e1, false_imp_iff, forall_const, feqB, Bool.false_and]
    exact ⟨g7, g8⟩
  simp -implicitDefEqProofs only [go_sem, zS, ↓reduceIte, Nat.reduceEqDiff, Nat.reduceAdd, Nat.reduceMul, reduceCtorEq, kont_eq, zU, zV, Int.reduceBEq, Int.reduceBNe, Int.reduceLE, Int.reduceLT, Nat.reduceLeDiff, Nat.reduceLT, zF, e1, g7, g8, c11, c21, forall_const]
  refine (c.eP _ _ _ _ A3 h2 k2 (by omega) (by omega)).mono ?_
  rintro r A4 ⟨rfl, rfl⟩
  rw [kont_eq]
  by_cases e2 : F.be = G.be
  case neg =>
    simp -implicitDefEqProofs only [go_sem, zS, ↓reduceIte, Nat.reduceEqDiff, Nat.reduceAdd, Nat.reduceMul, reduceCtorEq, kont_eq, zU, zV, Int.reduceBEq, Int.reduceBNe, Int.reduceLE, Int.reduceLT, Nat.reduceLeDiff, Nat.reduceLT, zF, e1, e2, false_imp_iff, forall_const, feqB, Bool.false_and, Bool.and_false]
    exact ⟨g7, g8⟩
  simp -implicitDefEqProofs only [go_sem, zS, ↓reduceIte, Nat.reduceEqDiff, Nat.reduceAdd, Nat.reduceMul, reduceCtorEq, kont_eq, zU, zV, Int.reduceBEq, Int.reduceBNe, Int.reduceLE, Int.reduceLT, Nat.reduceLeDiff, Nat.reduceLT, zF, e2, g7, g8, c12, c22, forall_const]
  refine (c.eP _ _ _ _ A4 h3 k3 (by omega) (by omega)).mono ?_
  rintro r A5 ⟨rfl, rfl⟩
  rw [kont_eq]
  by_cases e3 : F.di = G.di
  case neg =>
    simp -implicitDefEqProofs only [go_sem, zS, ↓reduceIte, Nat.reduceEqDiff, Nat.reduceAdd, Nat.reduceMul, reduceCtorEq, kont_eq, zU, zV, Int.reduceBEq, Int.reduceBNe, Int.reduceLE, Int.reduceLT, Nat.reduceLeDiff, Nat.reduceLT, zF, e1, e2, e3, false_imp_iff, forall_const, feqB, Bool.false_and, Bool.and_false]
    exact ⟨g7, g8⟩
  simp -implicitDefEqProofs only [go_sem, zS, ↓reduceIte, Nat.reduceEqDiff, Nat.reduceAdd, Nat.reduceMul, reduceCtorEq, kont_eq, zU, zV, Int.reduceBEq, Int.reduceBNe, Int.reduceLE, Int.reduceLT, Nat.reduceLeDiff, Nat.reduceLT, zF, e3, g7, g8, c13, c23, forall_const]
  refine (c.eP _ _ _ _ A5 h4 k4 (by omega) (by omega)).mono ?_
  rintro r A6 ⟨rfl, rfl⟩
  rw [kont_eq]
  by_cases e4 : F.sa = G.sa
  case neg =>
    simp -implicitDefEqProofs only [go_sem, zS, ↓reduceIte, Nat.reduceEqDiff, Nat.reduceAdd, Nat.reduceMul, reduceCtorEq, kont_eq, zU, zV, Int.reduceBEq, Int.reduceBNe, Int.reduceLE, Int.reduceLT, Nat.reduceLeDiff, Nat.reduceLT, zF, e1, e2, e3, e4, false_imp_iff, forall_const, feqB, Bool.false_and, Bool.and_false]
    exact ⟨g7, g8⟩
  simp -implicitDefEqProofs only [go_sem, zS, ↓reduceIte, Nat.reduceEqDiff, Nat.reduceAdd, Nat.reduceMul, reduceCtorEq, kont_eq, zU, zV, Int.reduceBEq, Int.reduceBNe, Int.reduceLE, Int.reduceLT, Nat.reduceLeDiff, Nat.reduceLT, zF, e4, g7, g8, c14, c24, forall_const]
  refine (c.eO _ _ _ _ A6 h5 k5 (by omega) (by omega)).mono ?_
  rintro r A7 ⟨rfl, rfl⟩
  rw [kont_eq]
  simp -implicitDefEqProofs only [go_sem, zS, ↓reduceIte, Nat.reduceEqDiff, Nat.reduceAdd, Nat.reduceMul, reduceCtorEq, kont_eq, zU, zV, Int.reduceBEq, Int.reduceBNe, Int.reduceLE, Int.reduceLT, Nat.reduceLeDiff, Nat.reduceLT, zF, feqB, e1, e2, e3, e4, Bool.true_and]
  exact ⟨g7, g8⟩
theorem esp_ok {P : Program} {ι : Ids} (c : LEC P ι) {f : Fr} {A : Hp} {b5 b7 b8 : Nat} {cs7 cs8 : List Value} {x : SpN} {F G : FlN} {Q : Value → Hp → Prop} (g5 : f 5 = .pointer (some ⟨b5, 0, none⟩)) (g7 : f 7 = .pointer (some ⟨b7, 0, none⟩)) (g8 : f 8 = .pointer (some ⟨b8, 0, none⟩)) (B5 : Bl A b5 (encX x)) (B7 : Bl A b7 cs7) (B8 : Bl A b8 cs8) (l8 : cs8.length = 5) (R7 : RefFl A (.agg cs7.toArray) F) (R8 : RefFl A (.agg cs8.toArray) G) (s7 : SmK 20 F) (s8 : SmK 20 G) (hne : G.st ≠ [])
    (n5 : b5 ≠ b8) (n7 : b7 ≠ b8) (o7 : ∀ q, flB (.agg cs7.toArray) q → q ≠ b8) (o8 : ∀ q, flB (.agg cs8.toArray) q → q ≠ b8) (hK : ∀ A', Keep (fun q => q = b8) A A' → Q (.bool true) A') : vc P (c_esp ι) (retQ [.t 6] Q) f A := by
  unfold c_esp
  have x1 : cell A ⟨b5, 1, none⟩ = some (.int .i64 x.a) := by rw [B5.cell]; rfl
  have hb8 := B8.lt
  simp -implicitDefEqProofs only [go_sem, zS, ↓reduceIte, Nat.reduceEqDiff, Nat.reduceAdd, Nat.reduceMul, reduceCtorEq, zU, zV, Int.reduceBEq, Int.reduceBNe, Int.reduceLE, Int.reduceLT, Nat.reduceLeDiff, Nat.reduceLT, zF, g5, x1]
  generalize (x.a).tmod 3 = z
  refine ⟨by decide, ?_⟩
  by_cases h : z = 2
  · have d1 : (z == 2) = true := by simpa using h
    have hX : ldNO A (.pointer (some ⟨b5, 0, none⟩)) 4 = some (encX x).toArray := B5.ldNO 4 rfl
    simp -implicitDefEqProofs only [go_sem, zS, ↓reduceIte, Nat.reduceEqDiff, Nat.reduceAdd, Nat.reduceMul, reduceCtorEq, zU, zV, Int.reduceBEq, Int.reduceBNe, Int.reduceLE, Int.reduceLT, Nat.reduceLeDiff, Nat.reduceLT, zF, d1, g5, g8, hX, B8.ldNO 5 l8.symm]
    refine (c.spo 20 G x _ A R8 hne s8 (by omega)).mono ?_
    rintro r A1 ⟨G', R1, s1, o1, K1⟩
    obtain ⟨cs, rfl, lc, ac⟩ := R1.cs
    have B81 := K1.bl B8 (by simp)
    have t8 := B81.okNA (o := 0) (n := 5) (by omega)
    have K2 : Keep (fun q => q = b8) A1 (stNA A1 ⟨b8, 0, none⟩ cs) := (Keep.refl _ _).stNA _ (.inl rfl)
    have C8 := B81.stNA 0 cs
    rw [wrL_all _ _ (by rw [lc, l8])] at C8
    have ac' := all1_of ac
    rw [kont_eq]
    simp -implicitDefEqProofs only [go_sem, zS, ↓reduceIte, Nat.reduceEqDiff, Nat.reduceAdd, Nat.reduceMul, reduceCtorEq, kont_eq, zU, zV, Int.reduceBEq, Int.reduceBNe, Int.reduceLE, Int.reduceLT, Nat.reduceLeDiff, Nat.reduceLT, zF, g8, t8]
    refine ⟨⟨lc, ac'⟩, est_ok c (by simp -implicitDefEqProofs only [go_sem, zS, ↓reduceIte, Nat.reduceEqDiff, Nat.reduceAdd, Nat.reduceMul, reduceCtorEq, kont_eq, zU, zV, Int.reduceBEq, Int.reduceBNe, Int.reduceLE, Int.reduceLT, Nat.reduceLeDiff, Nat.reduceLT, g7]) (by simp -implicitDefEqProofs only [go_sem, zS, ↓reduceIte, Nat.reduceEqDiff, Nat.reduceAdd, Nat.reduceMul, reduceCtorEq, kont_eq, zU, zV, Int.reduceBEq, Int.reduceBNe, Int.reduceLE, Int.reduceLT, Nat.reduceLeDiff, Nat.reduceLT, g8]) ((K2.bl (K1.bl B7 (by simp)) n7)) C8 ((R7.keep0 K1).keep K2 o7) (R1.keep K2 fun q hq e => ?_) (s7.le (by omega)) s1 fun A' K' => hK _ ((K1.any.trans K2).trans K'.any)⟩
    rcases o1 q hq with h | h
    · exact o8 q h e
    · omega
  · have d1 : (z == 2) = false := by simpa using h
    simp -implicitDefEqProofs only [go_sem, zS, ↓reduceIte, Nat.reduceEqDiff, Nat.reduceAdd, Nat.reduceMul, reduceCtorEq, kont_eq, zU, zV, Int.reduceBEq, Int.reduceBNe, Int.reduceLE, Int.reduceLT, Nat.reduceLeDiff, Nat.reduceLT, zF, d1]
    exact est_ok c (by simp -implicitDefEqProofs only [go_sem, zS, ↓reduceIte, Nat.reduceEqDiff, Nat.reduceAdd, Nat.reduceMul, reduceCtorEq, kont_eq, zU, zV, Int.reduceBEq, Int.reduceBNe, Int.reduceLE, Int.reduceLT, Nat.reduceLeDiff, Nat.reduceLT, g7]) (by simp -implicitDefEqProofs only [go_sem, zS, ↓reduceIte, Nat.reduceEqDiff, Nat.reduceAdd, Nat.reduceMul, reduceCtorEq, kont_eq, zU, zV, Int.reduceBEq, Int.reduceBNe, Int.reduceLE, Int.reduceLT, Nat.reduceLeDiff, Nat.reduceLT, g8]) B7 B8 R7 R8 (s7.le (by omega)) (s8.le (by omega)) fun A' K' => hK _ K'.any
theorem mkF_ne (r : RawF) : (mkF r).st ≠ [] := (mkF_good r).ne
theorem emd_ok {P : Program} {ι : Ids} (c : LEC P ι) {f : Fr} {A : Hp} {b3 b4 b5 : Nat} {cs3 cs4 : List Value} {x y : RawF} {s : SpN} {Q : Value → Hp → Prop} (h3 : f 3 = .pointer (some ⟨b3, 0, none⟩)) (h4 : f 4 = .pointer (some ⟨b4, 0, none⟩)) (h5 : f 5 = .pointer (some ⟨b5, 0, none⟩)) (B3 : Bl A b3 cs3) (B4 : Bl A b4 cs4) (B5 : Bl A b5 (encX s)) (l3 : cs3.length = 7) (l4 : cs4.length = 7) (hx : RawFV A (.agg cs3.toArray) x) (hy : RawFV A (.agg cs4.toArray) y)
    (hK : ∀ A', Keep (fun _ => False) A A' → Q (.bool true) A') : vc P (c_emd ι) (retQ [.t 6] Q) f A := by
  unfold c_emd
  rw [vc_seq]
  have z5 := B5.lt
  refine mk2_ok c.mak h3 h4 B3 B4 l3 l4 hx hy fun f' A' b7 b8 cs7 cs8 q5 q7 q8 B7 B8 l7 l8 R7 R8 hne o7 o8 hb8 K' => ?_
  simp only [thenQ_n]
  exact esp_ok c (q5.trans h5) q7 q8 (K'.bl B5 (by simp)) B7 B8 l8 R7 R8 (mkF_smK x) (mkF_smK y) (mkF_ne y) (by omega) hne o7 o8 fun A2 K2 => hK _ (K'.trans' K2 fun q hq e => by omega)
def LawFESpec (P : Program) (ι : Ids) (k : FuncId) : Prop := ∀ (x y : RawF) (v w : Value) (s : SpN) (H : Hp), TabOk ι H → RawFV H v x → RawFV H w y → CallsM P k #[v, w, .agg (encX s).toArray] H fun r H' => r = .bool true ∧ Keep (fun _ => False) H H'
theorem RawFV.cs {H : Hp} {v : Value} {r : RawF} (h : RawFV H v r) : ∃ cs : List Value, v = .agg cs.toArray ∧ cs.length = 7 ∧ (cs.all fun v => v.oneCell') = true := by
  obtain ⟨h0, ro, be, di, sa, mo, el, rfl, h1, h2, h3, h4, h5, h6⟩ := h
  refine ⟨_, rfl, rfl, ?_⟩
  simp only [List.all_cons, List.all_nil, Bool.and_true, Bool.and_eq_true]
  exact ⟨rfl, all1_sl h1.isSl, all1_sl h2.isSl, all1_sl h3.isSl, all1_sl h4.isSl, all1_sl h5.isSl, all1_sl h6.isSl⟩
theorem lfeq_ok {P : Program} {ι : Ids} {k : FuncId} (hk : FnIs P k (c_lfeq ι) r_lfeq 3) (c : LEC P ι) : LawFESpec P ι k := by
  intro x y v w s H hT hx hy
  obtain ⟨Q, hQ⟩ : ∃ Q : Value → Hp → Prop, Q = fun x H' => x = .bool true ∧ Keep (fun _ => False) H H' := ⟨_, rfl⟩
  rw [← hQ]
  refine calls_of_vc hk (args := [_, _, _]) (by simp) ?_
  unfold c_lfeq r_lfeq
  obtain ⟨cs3, rfl, l3, a3⟩ := hx.cs
  obtain ⟨cs4, rfl, l4, a4⟩ := hy.cs
  simp -implicitDefEqProofs only [go_sem, zS, ↓reduceIte, Nat.reduceEqDiff, Nat.reduceAdd, Nat.reduceMul, reduceCtorEq, zU, zV, Int.reduceBEq, Int.reduceBNe, Int.reduceLE, Int.reduceLT, Nat.reduceLeDiff, Nat.reduceLT, zF]
  refine kont_new fun H3 b3 e3 z3 B3 K3 => ?_
  have B3 : Bl H3 b3 cs3 := B3
  simp -implicitDefEqProofs only [go_sem, zS, ↓reduceIte, Nat.reduceEqDiff, Nat.reduceAdd, Nat.reduceMul, reduceCtorEq, zU, zV, Int.reduceBEq, Int.reduceBNe, Int.reduceLE, Int.reduceLT, Nat.reduceLeDiff, Nat.reduceLT, zF]
  refine kont_new fun H4 b4 e4 z4 B4 K4 => ?_
  have B4 : Bl H4 b4 cs4 := B4
  simp -implicitDefEqProofs only [go_sem, zS, ↓reduceIte, Nat.reduceEqDiff, Nat.reduceAdd, Nat.reduceMul, reduceCtorEq, zU, zV, Int.reduceBEq, Int.reduceBNe, Int.reduceLE, Int.reduceLT, Nat.reduceLeDiff, Nat.reduceLT, zF]
  refine kont_new fun H5 b5 e5 z5 B5 K5 => ?_
  have B5 : Bl H5 b5 (encX s) := B5
  have K05 := (K3.trans K4).trans K5
  simp -implicitDefEqProofs only [go_sem, zS, ↓reduceIte, Nat.reduceEqDiff, Nat.reduceAdd, Nat.reduceMul, reduceCtorEq, zU, zV, Int.reduceBEq, Int.reduceBNe, Int.reduceLE, Int.reduceLT, Nat.reduceLeDiff, Nat.reduceLT, zF]
  refine (c.aw H5 (hT.keep K05)).mono ?_
  rintro r H6 ⟨rfl, K6⟩
  have K06 := K05.trans K6
  have D3 := ((K4.trans K5).trans K6).bl B3 (by simp)
  have D4 := (K5.trans K6).bl B4 (by simp)
  have D5 := K6.bl B5 (by simp)
  have s3 := K3.size
  have s4 := K4.size
  have s5 := K5.size
  have x1 : cell H6 ⟨b5, 1, none⟩ = some (.int .i64 s.a) := by rw [D5.cell]; rfl
  rw [kont_eq]
  simp -implicitDefEqProofs only [go_sem, zS, ↓reduceIte, Nat.reduceEqDiff, Nat.reduceAdd, Nat.reduceMul, reduceCtorEq, zU, zV, Int.reduceBEq, Int.reduceBNe, Int.reduceLE, Int.reduceLT, Nat.reduceLeDiff, Nat.reduceLT, zF, Bool.not_true, x1]
  generalize (s.a).tmod 3 = z
  refine ⟨by decide, ?_⟩
  by_cases h : z = 0
  · have d1 : (z != 0) = false := by simpa using h
    simp -implicitDefEqProofs only [go_sem, zS, ↓reduceIte, Nat.reduceEqDiff, Nat.reduceAdd, Nat.reduceMul, reduceCtorEq, kont_eq, zU, zV, Int.reduceBEq, Int.reduceBNe, Int.reduceLE, Int.reduceLT, Nat.reduceLeDiff, Nat.reduceLT, zF, d1]
    refine emd_ok c (by simp -implicitDefEqProofs only [go_sem, zS, ↓reduceIte, Nat.reduceEqDiff, Nat.reduceAdd, Nat.reduceMul, reduceCtorEq, kont_eq, zU, zV, Int.reduceBEq, Int.reduceBNe, Int.reduceLE, Int.reduceLT, Nat.reduceLeDiff, Nat.reduceLT]) (by simp -implicitDefEqProofs only [go_sem, zS, ↓reduceIte, Nat.reduceEqDiff, Nat.reduceAdd, Nat.reduceMul, reduceCtorEq, kont_eq, zU, zV, Int.reduceBEq, Int.reduceBNe, Int.reduceLE, Int.reduceLT, Nat.reduceLeDiff, Nat.reduceLT]) (by simp -implicitDefEqProofs only [go_sem, zS, ↓reduceIte, Nat.reduceEqDiff, Nat.reduceAdd, Nat.reduceMul, reduceCtorEq, kont_eq, zU, zV, Int.reduceBEq, Int.reduceBNe, Int.reduceLE, Int.reduceLT, Nat.reduceLeDiff, Nat.reduceLT]) D3 D4 D5 l3 l4 (hx.keep0 K06) (hy.keep0 K06) fun A' K' => ?_
    rw [hQ]
    exact ⟨rfl, K06.trans K'⟩
  · have d1 : (z != 0) = true := by simpa using h
    have t4 := D4.okNA (o := 0) (n := 7) (by omega)
    have K7 : Keep (fun q => q = b4) H6 (stNA H6 ⟨b4, 0, none⟩ cs3) := (Keep.refl _ _).stNA _ (.inl rfl)
    have C4 := D4.stNA 0 cs3
    rw [wrL_all _ _ (by rw [l3, l4])] at C4
    have a3' := all1_of a3
    have K07 : Keep (fun _ => False) H (stNA H6 ⟨b4, 0, none⟩ cs3) := K06.trans' K7 fun q hq e => by omega
    simp -implicitDefEqProofs only [go_sem, zS, ↓reduceIte, Nat.reduceEqDiff, Nat.reduceAdd, Nat.reduceMul, reduceCtorEq, kont_eq, zU, zV, Int.reduceBEq, Int.reduceBNe, Int.reduceLE, Int.reduceLT, Nat.reduceLeDiff, Nat.reduceLT, zF, d1, D3.ldNO 7 l3.symm, t4]
    refine ⟨⟨l3, a3'⟩, emd_ok c (by simp -implicitDefEqProofs only [go_sem, zS, ↓reduceIte, Nat.reduceEqDiff, Nat.reduceAdd, Nat.reduceMul, reduceCtorEq, kont_eq, zU, zV, Int.reduceBEq, Int.reduceBNe, Int.reduceLE, Int.reduceLT, Nat.reduceLeDiff, Nat.reduceLT]) (by simp -implicitDefEqProofs only [go_sem, zS, ↓reduceIte, Nat.reduceEqDiff, Nat.reduceAdd, Nat.reduceMul, reduceCtorEq, kont_eq, zU, zV, Int.reduceBEq, Int.reduceBNe, Int.reduceLE, Int.reduceLT, Nat.reduceLeDiff, Nat.reduceLT]) (by simp -implicitDefEqProofs only [go_sem, zS, ↓reduceIte, Nat.reduceEqDiff, Nat.reduceAdd, Nat.reduceMul, reduceCtorEq, kont_eq, zU, zV, Int.reduceBEq, Int.reduceBNe, Int.reduceLE, Int.reduceLT, Nat.reduceLeDiff, Nat.reduceLT]) (K7.bl D3 (by omega)) C4 (K7.bl D5 (by omega)) l3 l3 (hx.keep0 K07) (hx.keep0 K07) fun A' K' => ?_⟩
    rw [hQ]
    exact ⟨rfl, K07.trans K'⟩
end Go.Mg
