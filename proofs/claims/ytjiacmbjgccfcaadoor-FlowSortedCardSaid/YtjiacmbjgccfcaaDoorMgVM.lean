/- flow: the law Sorted. -/
import Derived.Test.YtjiacmbjgccfcaaDoorMgVE
namespace Go.Mg
open Go Go.RowKit
set_option linter.unusedSimpArgs false
set_option linter.unusedVariables false
set_option maxRecDepth 100000
def c_lfsrt (ι : Ids) : S :=
  .seq (.reg [.e (.v 2) (.box (ι.t 288) (.v 0)), .p (.v 4) (.mv (.c (.bool false)))]) (.seq (.seq (.reg [.e (.t 16) (.call (ι.f 323) []), .p (.v 17) (.not (.t 16))]) (.ite (.v 17) (.seq (.reg [.p (.v 4)
  (.mv (.c (.bool false)))]) .ret) .skip)) (.seq (.reg [.p (.t 19) (.m (.ldn 7 (.v 2))), .e (.t 20) (.call (ι.f 300) [.t 19]), .p (.t 18) (.mv (.t 20)), .p (.t 21) (.ext (.t 18) 0), .p (.t 22) (.ext (.t
  18) 1), .p (.t 23) (.ext (.t 18) 2), .p (.t 24) (.ext (.t 18) 3), .e (.v 5) (.new (ι.t 296) #[.slice .none 0 0, .slice .none 0 0, .slice .none 0 0, .slice .none 0 0, .slice .none 0 0]), .e (.t 7)
  (.new (ι.t 289) #[.slice .none 0 0, .slice .none 0 0, .slice .none 0 0, .slice .none 0 0, .slice .none 0 0]), .e .no (.stn 5 (.v 5) (.t 21)), .p (.t 6) (.mv (.t 22)), .e .no (.stn 5 (.t 7) (.t 23)),
  .p (.t 8) (.mv (.t 24))]) (.seq (.reg [.p (.t 26) (.fa 0 (.v 5)), .p (.t 27) (.ld (.t 26)), .p (.t 28) (.m (.lenl (.t 27))), .p (.t 29) (.fa 1 (.v 5)), .p (.t 30) (.ld (.t 29)), .e (.t 31) (.call (ι.f
  201) [.t 28, .t 30]), .p (.t 25) (.mv (.t 31)), .p (.t 32) (.ext (.t 25) 0), .p (.t 33) (.ext (.t 25) 1), .p (.v 9) (.mv (.t 32)), .p (.v 10) (.mv (.t 33))]) (.seq (.seq (.reg [.p (.t 34) (.mv (.v
  10)), .p (.v 35) (.cm .neq .i64 (.t 34) (.c (.int .i64 0)))]) (.ite (.v 35) (.seq (.reg [.p (.v 4) (.mv (.c (.bool false)))]) .ret) .skip)) (.seq (.reg [.p (.t 36) (.mv (.v 1)), .p (.t 37) (.ii .u64
  (.t 36)), .e (.t 38) (.call (ι.f 283) [.t 37]), .e (.v 11) (.new (ι.t 128) #[.slice .none 0 0]), .e .no (.stn 1 (.v 11) (.t 38))]) (.seq (.seq (.reg [.p (.t 39) (.fa 0 (.v 5)), .p (.t 40) (.ld (.t
  39)), .p (.v 41) (.m (.lenl (.t 40))), .p (.v 42) (.mv (.c (.int .i64 0)))]) (.blk 0 (.loop (.seq (.reg [.p (.v 43) (.cm .lss .i64 (.v 42) (.v 41))]) (.seq (.ite (.v 43) .skip (.exit 0)) (.seq (.blk 1
  (.seq (.reg [.p (.t 44) (.mv (.v 42)), .p (.v 12) (.mv (.t 44))]) (.seq (.reg [.e (.t 45) (.call (ι.f 143) [.c (.slice .none 0 0)]), .e (.v 13) (.new (ι.t 128) #[.slice .none 0 0]), .e .no (.stn 1 (.v
  13) (.t 45))]) (.seq (.seq (.reg [.p (.t 46) (.fa 1 (.v 5)), .p (.v 47) (.ld (.t 46)), .p (.v 48) (.m (.lenl (.v 47))), .p (.v 49) (.mv (.c (.int .i64 0)))]) (.blk 2 (.loop (.seq (.reg [.p (.v 50)
  (.cm .lss .i64 (.v 49) (.v 48))]) (.seq (.ite (.v 50) .skip (.exit 2)) (.seq (.blk 3 (.seq (.reg [.p (.t 51) (.is 2 (.v 47) (.v 49)), .p (.t 52) (.m (.ldn 2 (.t 51))), .e (.v 15) (.new (ι.t 194)
  #[.int .i64 0, .int .i64 0]), .e .no (.stn 2 (.v 15) (.t 52))]) (.seq (.reg [.p (.t 53) (.ia 2 1 (.v 15) (.c (.int .i64 1))), .p (.t 54) (.ld (.t 53)), .p (.t 55) (.mv (.v 12)), .p (.v 56) (.cm .eql
  .i64 (.t 54) (.t 55))]) (.ite (.v 56) (.reg [.p (.t 57) (.m (.ldn 1 (.v 13))), .p (.t 58) (.ia 2 1 (.v 15) (.c (.int .i64 0))), .p (.t 59) (.ld (.t 58)), .e (.t 60) (.call (ι.f 131) [.t 57, .t 59]),
  .e .no (.stn 1 (.v 13) (.t 60))]) .skip)))) (.reg [.p (.t 61) (.ar .add .i64 (.v 49) (.c (.int .i64 1))), .p (.v 49) (.mv (.t 61))]))))))) (.seq (.dr (.px (.t 62) .none (.m (.ldn 5 (.v 5))) (.px (.t
  63) .none (.m (.ldn 1 (.v 11))) (.px (.t 65) .none (.mv (.v 12)) (.px (.t 67) .none (.m (.ldn 1 (.v 11))) (.px (.t 68) .none (.mv (.v 12)) (.wcons (.t 64) .none (.call (ι.f 314) [.t 62, .t 63])
  (.wcons (.t 66) .none (.call (ι.f 158) [.t 64, .t 65]) (.wcons (.t 69) .none (.call (ι.f 130) [.t 67, .t 68]) (.px (.t 70) .none (.not (.t 69)) (.px (.t 71) .none (.mv (.t 70)) (.px (.t 72) (.some (.t
  71, true)) (.m (.ldn 1 (.v 13))) (.px (.t 73) (.some (.t 71, true)) (.m (.ldn 1 (.v 11))) (.wcons (.t 74) (.some (.t 71, true)) (.call (ι.f 141) [.t 72, .t 73]) (.px (.t 75) .none (.pick (.t 71) (.t
  74) (.c (.bool false))) (.px (.t 76) .none (.eqb true (.t 66) (.t 75)) (.px (.t 77) .none (.mv (.t 76)) (.px (.t 78) (.some (.t 77, false)) (.m (.ldn 1 (.v 13))) (.px (.t 79) (.some (.t 77, false))
  (.mv (.v 9)) (.px (.t 80) (.some (.t 77, false)) (.mv (.v 12)) (.wcons (.t 81) (.some (.t 77, false)) (.call (ι.f 206) [.t 79, .t 80]) (.wcons (.t 82) (.some (.t 77, false)) (.call (ι.f 141) [.t 78,
  .t 81]) (.px (.t 83) (.some (.t 77, false)) (.not (.t 82)) (.px (.v 84) .none (.pick (.t 77) (.c (.bool true)) (.t 83)) .done)) .wnil) .wnil))))))) .wnil))))) .wnil) .wnil) .wnil))))))) (.ite (.v 84)
  (.seq (.reg [.p (.v 4) (.mv (.c (.bool false)))]) .ret) .skip)))))) (.reg [.p (.t 85) (.ar .add .i64 (.v 42) (.c (.int .i64 1))), .p (.v 42) (.mv (.t 85))]))))))) (.seq (.reg [.p (.t 86) (.m (.ldn 5
  (.v 5))), .e (.t 87) (.call (ι.f 315) [.t 86]), .p (.t 88) (.mv (.v 9)), .e (.t 89) (.call (ι.f 209) [.t 88]), .e (.t 90) (.call (ι.f 165) [.t 87, .t 89]), .p (.v 4) (.mv (.t 90))]) .ret)))))))
def r_lfsrt : List RV := [.t 4]
structure LSC (P : Program) (ι : Ids) : Prop where
  aw : FAwkSpec P ι (ι.f 323)
  mak : LMakfSpec P (ι.f 300)
  ro : RolesSpec P (ι.f 283)
  ord : FOrdSpec P ι (ι.f 315)
  rdy : FRdySpec P ι (ι.f 314)
  eqI : IEqSpec P (ι.f 165)
  con : IConSpec P (ι.f 158)
  new : ONewSpec P ι (ι.f 201)
  abv : OAbvSpec P (ι.f 206)
  srt : OSrtSpec P (ι.f 209)
  of_ : BOfSpec P (ι.f 143)
  wi : BWithSpec P (ι.f 131)
  has : HasSpec P (ι.f 130)
  sub : BWithinSpec P (ι.f 141)
def dirP (l : List PrN) (k : Nat) (x : Nat) : Bool := l.any fun y => decide (y.2 = (k : Int)) && decide (y.1 = (x : Int))
theorem dirP_succ {n k : Nat} {l : List PrN} (h : ∀ x ∈ l, okP (n : Int) x) (hn : n ≤ 4095) {i : Nat} (hi : i < l.length) (x : Nat) : dirP (l.take (i + 1)) k x = if l[i].2 = (k : Int) then withP (dirP (l.take i) k) l[i].1 x else dirP (l.take i) k x := by
  have h0 := h _ (List.getElem_mem hi)
  unfold okP at h0
  unfold dirP withP
  rw [List.take_succ_eq_append_getElem hi, List.any_append, List.any_cons, List.any_nil, Bool.or_false]
  by_cases e : l[i].2 = (k : Int)
  · rw [if_pos e, decide_eq_true e, Bool.true_and]
    congr 1
    rw [Bool.eq_iff_iff]
    simp only [decide_eq_true_eq, Bool.and_eq_true]
    omega
  · rw [if_neg e, decide_eq_false e, Bool.false_and, Bool.or_false]
theorem dirP_sub {n k : Nat} {l : List PrN} (h : ∀ x ∈ l, okP (n : Int) x) (hn : n ≤ 4095) (p : Nat → Bool) : (∀ m, dirP l k m = true → p m = true) ↔ waitB l p k = false := by
  unfold waitB dirP
  rw [List.any_eq_false]
  simp only [List.any_eq_true, Bool.and_eq_true, decide_eq_true_eq, Bool.not_eq_true', not_and, Bool.not_eq_false]
  constructor
  · intro g x hx e
    have h0 := h x hx
    unfold okP at h0
    obtain ⟨a, ha⟩ : ∃ a : Nat, x.1 = (a : Int) := ⟨x.1.toNat, by omega⟩
    rw [ha, memI_nat (by omega)]
    exact g a ⟨x, hx, e, ha⟩
  · rintro g m ⟨x, hx, e, ha⟩
    have h0 := h x hx
    unfold okP at h0
    have := g x hx e
    rw [ha, memI_nat (by omega)] at this
    exact this
theorem dirP_abv {n k : Nat} {l : List PrN} (hk : k < n) (m : Nat) (h : dirP l k m = true) : abvO (some (n, relI l)) (k : Int) m = true := by
  unfold dirP at h
  rw [List.any_eq_true] at h
  obtain ⟨x, hx, h⟩ := h
  simp only [Bool.and_eq_true, decide_eq_true_eq] at h
  show (decide (0 ≤ (k : Int)) && decide ((k : Int) < (n : Int)) && tcB (relI l) m (k : Int).toNat) = true
  rw [decide_eq_true (show 0 ≤ (k : Int) by omega), decide_eq_true (show (k : Int) < (n : Int) by omega)]
  rw [Bool.true_and, Bool.true_and, tcB_iff, Int.toNat_natCast]
  refine Tc.one (decide_eq_true ?_)
  have : x = ((m : Int), (k : Int)) := Prod.ext h.2 h.1
  rw [← this]; exact hx
theorem mem_rdyL {n k : Nat} {be : List PrN} {p : Nat → Bool} (hk : k < n) : k ∈ rdyL n be p ↔ (!memI p (k : Int) && !waitB be p k) = true := by
  unfold rdyL
  rw [List.mem_filter, List.mem_range, Bool.and_comm]
  exact ⟨fun h => h.2, fun h => ⟨hk, h⟩⟩
theorem lfsrt_ok {P : Program} {ι : Ids} {k : FuncId} (hk : FnIs P k (c_lfsrt ι) r_lfsrt 2) (c : LSC P ι) : LawFDSpec P ι k := by
  intro r v dn H hT hv
  obtain ⟨Q, hQ⟩ : ∃ Q : Value → Hp → Prop, Q = fun x H' => x = .bool true ∧ Keep (fun _ => False) H H' := ⟨_, rfl⟩
  rw [← hQ]
  refine calls_of_vc hk (args := [_, _]) (by simp) ?_
  unfold c_lfsrt r_lfsrt
  have hv := hv
  have hvr := hv
  obtain ⟨h0, ro, be, di, sa, mo, el, rfl, _⟩ := hv
  simp -implicitDefEqProofs only [go_sem, zS, ↓reduceIte, Nat.reduceEqDiff, Nat.reduceAdd, Nat.reduceMul, reduceCtorEq, zU, zV, Int.reduceBEq, Int.reduceBNe, Int.reduceLE, Int.reduceLT, Nat.reduceLeDiff, Nat.reduceLT, zF]
  refine kont_new fun H1 b2 e1 z1 B1 K1 => ?_
  have B1' : Bl H1 b2 [.int .u8 (r.n : Int), ro, be, di, sa, mo, el] := B1
  simp -implicitDefEqProofs only [go_sem, zS, ↓reduceIte, Nat.reduceEqDiff, Nat.reduceAdd, Nat.reduceMul, reduceCtorEq, zU, zV, Int.reduceBEq, Int.reduceBNe, Int.reduceLE, Int.reduceLT, Nat.reduceLeDiff, Nat.reduceLT, zF]
  refine (c.aw H1 (hT.keep K1)).mono ?_
  rintro x H2 ⟨rfl, K2⟩
  have K02 := K1.trans K2
  have B2 := K2.bl B1' (by simp)
  rw [kont_eq]
  simp -implicitDefEqProofs only [go_sem, zS, ↓reduceIte, Nat.reduceEqDiff, Nat.reduceAdd, Nat.reduceMul, reduceCtorEq, zU, zV, Int.reduceBEq, Int.reduceBNe, Int.reduceLE, Int.reduceLT, Nat.reduceLeDiff, Nat.reduceLT, zF, Bool.not_true, B2.ldNO 7 rfl]
  refine (c.mak r _ H2 (RawFV.keep0 hvr K02)).mono ?_
  rintro x H3 ⟨fv, lv, mv, uv, rfl, hP, _, hM, _, K3⟩
  have K03 := K02.trans K3
  have hP := hP.fl
  have hP0 := hP
  have hM0 := hM
  obtain ⟨s, b, d, a, m, ms, rfl, g1, g2, _⟩ := hP
  obtain ⟨s', b', d', a', m', rfl, _⟩ := hM
  rw [kont_eq]
  simp -implicitDefEqProofs only [go_sem, zS, ↓reduceIte, Nat.reduceEqDiff, Nat.reduceAdd, Nat.reduceMul, reduceCtorEq, zU, zV, Int.reduceBEq, Int.reduceBNe, Int.reduceLE, Int.reduceLT, Nat.reduceLeDiff, Nat.reduceLT, zF]
  refine kont_new fun H4 b5 e4 z4 B4 K4 => ?_
  have B4' : Bl H4 b5 [.slice none 0 0, .slice none 0 0, .slice none 0 0, .slice none 0 0, .slice none 0 0] := B4
  simp -implicitDefEqProofs only [go_sem, zS, ↓reduceIte, Nat.reduceEqDiff, Nat.reduceAdd, Nat.reduceMul, reduceCtorEq, zU, zV, Int.reduceBEq, Int.reduceBNe, Int.reduceLE, Int.reduceLT, Nat.reduceLeDiff, Nat.reduceLT, zF]
  refine kont_new fun H5 b7 e5 z5 B5 K5 => ?_
  have B5' : Bl H5 b7 [.slice none 0 0, .slice none 0 0, .slice none 0 0, .slice none 0 0, .slice none 0 0] := B5
  have s4 := K4.size
  have s5 := K5.size
  have B45 := K5.bl B4' (by simp)
  have t4 := B45.okNA (o := 0) (n := 5) (by simp)
  have C5 := B45.stNA 0 [s, b, d, a, m]
  have L1 : Keep (fun q => q = b5) H5 (stNA H5 ⟨b5, 0, none⟩ [s, b, d, a, m]) := (Keep.refl _ _).stNA _ (.inl rfl)
  have D7 := L1.bl B5' (by omega)
  have t7 := D7.okNA (o := 0) (n := 5) (by simp)
  have L2 : Keep (fun q => q = b7) (stNA H5 ⟨b5, 0, none⟩ [s, b, d, a, m]) (stNA (stNA H5 ⟨b5, 0, none⟩ [s, b, d, a, m]) ⟨b7, 0, none⟩ [s', b', d', a', m']) := (Keep.refl _ _).stNA _ (.inl rfl)
  have D5 := L2.bl C5 (by omega)
  have ha : all1 #[s, b, d, a, m] := hP0.all1
  have ha' : all1 #[s', b', d', a', m'] := hM0.all1
  simp -implicitDefEqProofs only [go_sem, zS, ↓reduceIte, Nat.reduceEqDiff, Nat.reduceAdd, Nat.reduceMul, reduceCtorEq, zU, zV, Int.reduceBEq, Int.reduceBNe, Int.reduceLE, Int.reduceLT, Nat.reduceLeDiff, Nat.reduceLT, zF, t4, t7]
  refine ⟨ha, ?_⟩
  rw [kont_eq]
  simp -implicitDefEqProofs only [go_sem, zS, ↓reduceIte, Nat.reduceEqDiff, Nat.reduceAdd, Nat.reduceMul, reduceCtorEq, zU, zV, Int.reduceBEq, Int.reduceBNe, Int.reduceLE, Int.reduceLT, Nat.reduceLeDiff, Nat.reduceLT, zF, t7]
  refine ⟨ha', ?_⟩
  generalize stNA (stNA H5 ⟨b5, 0, none⟩ [s, b, d, a, m]) ⟨b7, 0, none⟩ [s', b', d', a', m'] = H6 at L2 D5 ⊢
  have K36 : Keep (fun _ => False) H3 H6 := ((K4.trans K5).trans' L1 fun q hq h => by omega).trans' L2 fun q hq h => by omega
  have K06 := K03.trans K36
  have C5' : Bl H6 b5 [s, b, d, a, m] := D5
  have p6 := hP0.keep0 K36
  have hT6 := hT.keep K06
  have hok := mkF_ok r
  have hG := mkF_good r
  have hlt := hG.lt
  have hbe : ∀ x ∈ (mkF r).be, okP ((mkF r).st.length : Int) x := fun x hx => (hG.be x hx).1
  have hlim := hG.lim
  unfold tooL at hlim
  have c0 : cell H6 ⟨b5, 0, none⟩ = some s := by rw [C5'.cell]; rfl
  have c1 : cell H6 ⟨b5, 1, none⟩ = some b := by rw [C5'.cell]; rfl
  have b6 := g2.keep0 K36
  rw [kont_eq]
  simp -implicitDefEqProofs only [go_sem, zS, ↓reduceIte, Nat.reduceEqDiff, Nat.reduceAdd, Nat.reduceMul, reduceCtorEq, zU, zV, Int.reduceBEq, Int.reduceBNe, Int.reduceLE, Int.reduceLT, Nat.reduceLeDiff, Nat.reduceLT, zF, c0, c1, g1.isSl, g1.len]
  refine (c.new ((mkF r).st.length : Int) (mkF r).be b H6 hT6 b6 (by omega)).mono ?_
  rintro x H7 ⟨hN, K7, _⟩
  obtain ⟨ov, rfl, hO⟩ := hN.good (by omega) hbe hG.acy
  have K67 := K7
  have K07 := K06.trans K7
  obtain ⟨x, hxe⟩ : ∃ x : UInt64, x.toNat = dn.toNat := ⟨UInt64.ofNat dn.toNat, by have : dn.toNat < 256 := dn.toNat_lt; simp⟩
  have hw : IntKind.u64.wrap (dn.toNat : Int) = (x.toNat : Int) := by rw [← hxe]; exact wrapNat x
  rw [kont_eq]
  simp -implicitDefEqProofs only [go_sem, zS, ↓reduceIte, Nat.reduceEqDiff, Nat.reduceAdd, Nat.reduceMul, reduceCtorEq, zU, zV, Int.reduceBEq, Int.reduceBNe, Int.reduceLE, Int.reduceLT, Nat.reduceLeDiff, Nat.reduceLT, zF, hw]
  refine (c.ro x H7).mono ?_
  rintro w3 H8 ⟨S3, o3, K8⟩
  obtain ⟨wv, rfl⟩ : ∃ wv, w3 = .agg #[wv] := by obtain ⟨wv, _, e, _⟩ := S3; exact ⟨wv, e⟩
  have q3 : wv.oneCell' = true := by
    obtain ⟨_, W, e, hV⟩ := S3
    cases e
    exact all1_sl hV.sl.isSl
  rw [kont_eq]
  simp -implicitDefEqProofs only [go_sem, zS, ↓reduceIte, Nat.reduceEqDiff, Nat.reduceAdd, Nat.reduceMul, reduceCtorEq, zU, zV, Int.reduceBEq, Int.reduceBNe, Int.reduceLE, Int.reduceLT, Nat.reduceLeDiff, Nat.reduceLT, zF]
  refine kont_newst [wv] (by simp -implicitDefEqProofs only [go_sem, zS, ↓reduceIte, Nat.reduceEqDiff, Nat.reduceAdd, Nat.reduceMul, reduceCtorEq, kont_eq, zU, zV, Int.reduceBEq, Int.reduceBNe, Int.reduceLE, Int.reduceLT, Nat.reduceLeDiff, Nat.reduceLT]) rfl rfl (by simp [q3]) fun H9 b11 e9 z9 B9 K9 => ?_
  have K69 := (K7.trans K8).trans K9
  have K79 := K8.trans K9
  have s9 := K69.size
  have C59 := K69.bl C5' (by simp)
  have c0 : cell H9 ⟨b5, 0, none⟩ = some s := by rw [C59.cell]; rfl
  simp -implicitDefEqProofs only [go_sem, zS, ↓reduceIte, Nat.reduceEqDiff, Nat.reduceAdd, Nat.reduceMul, reduceCtorEq, zU, zV, Int.reduceBEq, Int.reduceBNe, Int.reduceLE, Int.reduceLT, Nat.reduceLeDiff, Nat.reduceLT, zF, c0, g1.isSl, g1.len]
  refine vc_range (mkF r).st.length [43, 12, 13, 47, 48, 49, 50, 15, 56, 84, 4, 42] rfl rfl (by omega) (by simp -implicitDefEqProofs only [go_sem, zS, ↓reduceIte, Nat.reduceEqDiff, Nat.reduceAdd, Nat.reduceMul, reduceCtorEq, kont_eq, zU, zV, Int.reduceBEq, Int.reduceBNe, Int.reduceLE, Int.reduceLT, Nat.reduceLeDiff, Nat.reduceLT]) (by simp -implicitDefEqProofs only [go_sem, zS, ↓reduceIte, Nat.reduceEqDiff, Nat.reduceAdd, Nat.reduceMul, reduceCtorEq, kont_eq, zU, zV, Int.reduceBEq, Int.reduceBNe, Int.reduceLE, Int.reduceLT, Nat.reduceLeDiff, Nat.reduceLT]) (fun i g A => Keep (fun _ => False) H9 A) (Keep.refl _ _) ?_ ?_
  · intro i g A hi gi gn KA
    simp -implicitDefEqProofs only [go_sem, zS, ↓reduceIte, Nat.reduceEqDiff, Nat.reduceAdd, Nat.reduceMul, reduceCtorEq, kont_eq, zU, zV, Int.reduceBEq, Int.reduceBNe, Int.reduceLE, Int.reduceLT, Nat.reduceLeDiff, Nat.reduceLT] at gi gn
    simp -implicitDefEqProofs only [go_sem, zS, ↓reduceIte, Nat.reduceEqDiff, Nat.reduceAdd, Nat.reduceMul, reduceCtorEq, zU, zV, Int.reduceBEq, Int.reduceBNe, Int.reduceLE, Int.reduceLT, Nat.reduceLeDiff, Nat.reduceLT, zF, gi]
    refine (c.of_ [] (.slice none 0 0) A (SlR.nil _ _ _) (by simp)).mono ?_
    rintro d0 A1 ⟨S1, K1a, o1⟩
    obtain ⟨dv, rfl⟩ : ∃ dv, d0 = .agg #[dv] := by obtain ⟨dv, _, e, _⟩ := S1; exact ⟨dv, e⟩
    have one : ∀ {B : Hp} {u : Value} {p : Nat → Bool}, SetM B (.agg #[u]) p → u.oneCell' = true := fun S => by
      obtain ⟨_, W, e, hV⟩ := S
      cases e
      exact all1_sl hV.sl.isSl
    rw [kont_eq]
    simp -implicitDefEqProofs only [go_sem, zS, ↓reduceIte, Nat.reduceEqDiff, Nat.reduceAdd, Nat.reduceMul, reduceCtorEq, zU, zV, Int.reduceBEq, Int.reduceBNe, Int.reduceLE, Int.reduceLT, Nat.reduceLeDiff, Nat.reduceLT, zF]
    refine kont_newst [dv] (by simp -implicitDefEqProofs only [go_sem, zS, ↓reduceIte, Nat.reduceEqDiff, Nat.reduceAdd, Nat.reduceMul, reduceCtorEq, kont_eq, zU, zV, Int.reduceBEq, Int.reduceBNe, Int.reduceLE, Int.reduceLT, Nat.reduceLeDiff, Nat.reduceLT]) rfl rfl (by simp [one S1]) fun A2 b13 e13 z13 B13 K2a => ?_
    have KA2 := (KA.trans K1a).trans K2a
    have K62 := K69.trans KA2
    have sA := (KA.trans K1a).size
    have C52 := K62.bl C5' (by simp)
    have c1 : cell A2 ⟨b5, 1, none⟩ = some b := by rw [C52.cell]; rfl
    have S2 := S1.keep0 K2a
    have n13 : ∀ q, setB (.agg #[dv]) q → q ≠ b13 := fun q hq e => by have := S1.old hq; omega
    simp -implicitDefEqProofs only [go_sem, zS, ↓reduceIte, Nat.reduceEqDiff, Nat.reduceAdd, Nat.reduceMul, reduceCtorEq, zU, zV, Int.reduceBEq, Int.reduceBNe, Int.reduceLE, Int.reduceLT, Nat.reduceLeDiff, Nat.reduceLT, zF, c1, g2.isSl, g2.len]
    refine vc_range (mkF r).be.length [50, 15, 56, 49] rfl rfl (by omega) (by simp -implicitDefEqProofs only [go_sem, zS, ↓reduceIte, Nat.reduceEqDiff, Nat.reduceAdd, Nat.reduceMul, reduceCtorEq, kont_eq, zU, zV, Int.reduceBEq, Int.reduceBNe, Int.reduceLE, Int.reduceLT, Nat.reduceLeDiff, Nat.reduceLT]) (by simp -implicitDefEqProofs only [go_sem, zS, ↓reduceIte, Nat.reduceEqDiff, Nat.reduceAdd, Nat.reduceMul, reduceCtorEq, kont_eq, zU, zV, Int.reduceBEq, Int.reduceBNe, Int.reduceLE, Int.reduceLT, Nat.reduceLeDiff, Nat.reduceLT]) (fun j g B => ∃ u, Bl B b13 [u] ∧ SetM B (.agg #[u]) (dirP ((mkF r).be.take j) i) ∧ (∀ q, setB (.agg #[u]) q → q ≠ b13) ∧ Keep (fun q => q = b13) A2 B)
      ⟨dv, B13, S2.congr fun n => by simp [ofP, dirP], n13, Keep.refl _ _⟩ ?_ ?_
    · rintro j g' B hj gj gm ⟨u, Bu, Su, nu, Ku⟩
      simp -implicitDefEqProofs only [go_sem, zS, ↓reduceIte, Nat.reduceEqDiff, Nat.reduceAdd, Nat.reduceMul, reduceCtorEq, kont_eq, zU, zV, Int.reduceBEq, Int.reduceBNe, Int.reduceLE, Int.reduceLT, Nat.reduceLeDiff, Nat.reduceLT] at gj gm
      have K6B : Keep (fun _ => False) H6 B := K62.trans' Ku fun q hq e => by omega
      obtain ⟨pb, po, pc, rfl, -, hld⟩ := (b6.keep0 K6B).elem pE_len (i := j) hj
      obtain ⟨y, hy⟩ : ∃ y, y = (mkF r).be[j] := ⟨_, rfl⟩
      rw [← hy] at hld
      simp -implicitDefEqProofs only [go_sem, zS, ↓reduceIte, Nat.reduceEqDiff, Nat.reduceAdd, Nat.reduceMul, reduceCtorEq, zU, zV, Int.reduceBEq, Int.reduceBNe, Int.reduceLE, Int.reduceLT, Nat.reduceLeDiff, Nat.reduceLT, zF, gj, tn_cast, ldNO_ptr, hld]
      refine ⟨⟨by omega, by omega⟩, ?_⟩
      refine kont_newst (pE y) (by simp -implicitDefEqProofs only [go_sem, zS, ↓reduceIte, Nat.reduceEqDiff, Nat.reduceAdd, Nat.reduceMul, reduceCtorEq, kont_eq, zU, zV, Int.reduceBEq, Int.reduceBNe, Int.reduceLE, Int.reduceLT, Nat.reduceLeDiff, Nat.reduceLT]) rfl rfl (List.all_eq_true.2 (pE_one _)) fun B1 b15 e15 z15 B15 K3a => ?_
      have cy : cell B1 ⟨b15, 1, none⟩ = some (.int .i64 y.2) := by rw [B15.cell]; rfl
      have cx : cell B1 ⟨b15, 0, none⟩ = some (.int .i64 y.1) := by rw [B15.cell]; rfl
      have Bu1 := K3a.bl Bu (by simp)
      have Su1 := Su.keep0 K3a
      have Ku1 := Ku.trans K3a.any
      have hds := dirP_succ (k := i) hbe (by omega) hj
      rw [← hy] at hds
      by_cases e : y.2 = (i : Int)
      · have d1 : (y.2 == (i : Int)) = true := by simpa using e
        simp -implicitDefEqProofs only [go_sem, zS, ↓reduceIte, Nat.reduceEqDiff, Nat.reduceAdd, Nat.reduceMul, reduceCtorEq, zU, zV, Int.reduceBEq, Int.reduceBNe, Int.reduceLE, Int.reduceLT, Nat.reduceLeDiff, Nat.reduceLT, zF, cy, cx, d1, Bu1.ldNO 1 rfl]
        refine (c.wi _ _ y.1 B1 Su1).mono ?_
        rintro u' B2 ⟨Su2, K4a, o2⟩
        obtain ⟨uv, rfl⟩ : ∃ uv, u' = .agg #[uv] := by obtain ⟨uv, _, e, _⟩ := Su2; exact ⟨uv, e⟩
        have Bu2 := K4a.bl Bu1 (by simp)
        have t13 := Bu2.okNA (o := 0) (n := 1) (by simp)
        have K5a : Keep (fun q => q = b13) B2 (stNA B2 ⟨b13, 0, none⟩ [uv]) := (Keep.refl _ _).stNA _ (.inl rfl)
        have au : all1 #[uv] := all1_of (by simp [one Su2])
        have nb : ∀ q, setB (.agg #[uv]) q → q ≠ b13 := fun q hq => by
          rcases o2 q hq with h | h
          · exact nu q h
          · have := Bu1.lt; omega
        rw [kont_eq]
        simp -implicitDefEqProofs only [go_sem, zS, ↓reduceIte, Nat.reduceEqDiff, Nat.reduceAdd, Nat.reduceMul, reduceCtorEq, kont_eq, zU, zV, Int.reduceBEq, Int.reduceBNe, Int.reduceLE, Int.reduceLT, Nat.reduceLeDiff, Nat.reduceLT, zF, t13]
        refine ⟨au, uv, ?_, (Su2.keep K5a nb).congr fun n => ?_, nb, (Ku1.trans K4a.any).trans K5a⟩
        · have := Bu2.stNA 0 [uv]
          rwa [wrL_all _ _ (by simp)] at this
        · rw [hds, if_pos e]
      · have d1 : (y.2 == (i : Int)) = false := by simpa using e
        simp -implicitDefEqProofs only [go_sem, zS, ↓reduceIte, Nat.reduceEqDiff, Nat.reduceAdd, Nat.reduceMul, reduceCtorEq, kont_eq, zU, zV, Int.reduceBEq, Int.reduceBNe, Int.reduceLE, Int.reduceLT, Nat.reduceLeDiff, Nat.reduceLT, zF, cy, cx, d1]
        refine ⟨u, Bu1, Su1.congr fun n => ?_, nu, Ku1⟩
        rw [hds, if_neg e]
    · rintro g' B gj ⟨u, Bu, Su, nu, Ku⟩
      rw [List.take_length] at Su
      have K6B : Keep (fun _ => False) H6 B := K62.trans' Ku fun q hq e => by omega
      have K9B : Keep (fun _ => False) H9 B := KA2.trans' Ku fun q hq e => by omega
      have K7B := K79.trans K9B
      have C5B := K6B.bl C5' (by simp)
      have B9B := K9B.bl B9 (by simp)
      have SB := S3.keep0 (K9.trans K9B)
      simp -implicitDefEqProofs only [go_sem, zS, ↓reduceIte, Nat.reduceEqDiff, Nat.reduceAdd, Nat.reduceMul, reduceCtorEq, zU, zV, Int.reduceBEq, Int.reduceBNe, Int.reduceLE, Int.reduceLT, Nat.reduceLeDiff, Nat.reduceLT, zF]
      refine vc_drk (fun _ => False) ?_
      simp -implicitDefEqProofs only [go_sem, zS, ↓reduceIte, Nat.reduceEqDiff, Nat.reduceAdd, Nat.reduceMul, reduceCtorEq, zU, zV, Int.reduceBEq, Int.reduceBNe, Int.reduceLE, Int.reduceLT, Nat.reduceLeDiff, Nat.reduceLT, zF, C5B.ldNO 5 rfl, B9B.ldNO 1 rfl]
      refine (c.rdy (mkF r) _ _ (bt x) B (hT6.keep K6B) (p6.keep0 K6B) hok SB).mono ?_
      rintro w4 B1 ⟨O4, o4, L1⟩
      refine ⟨L1, ?_⟩
      have hrl := rdyL_len (mkF r).st.length (mkF r).be (bt x)
      simp -implicitDefEqProofs only [go_sem, zS, ↓reduceIte, Nat.reduceEqDiff, Nat.reduceAdd, Nat.reduceMul, reduceCtorEq, zU, zV, Int.reduceBEq, Int.reduceBNe, Int.reduceLE, Int.reduceLT, Nat.reduceLeDiff, Nat.reduceLT, zF]
      refine (c.con (nI (rdyL (mkF r).st.length (mkF r).be (bt x))) w4 (i : Int) B1 O4.sl (by simp only [nI, List.length_map]; omega)).mono ?_
      rintro w5 B2 ⟨⟨bb, rfl, hbb⟩, rfl⟩
      refine ⟨Keep.refl _ _, ?_⟩
      simp -implicitDefEqProofs only [go_sem, zS, ↓reduceIte, Nat.reduceEqDiff, Nat.reduceAdd, Nat.reduceMul, reduceCtorEq, zU, zV, Int.reduceBEq, Int.reduceBNe, Int.reduceLE, Int.reduceLT, Nat.reduceLeDiff, Nat.reduceLT, zF]
      refine (c.has (bt x) _ (i : Int) B2 (SB.keep0 L1)).mono ?_
      rintro w6 B3 ⟨rfl, L2⟩
      refine ⟨L2, ?_⟩
      have L12 := L1.trans L2
      have Bu3 := L12.bl Bu (by simp)
      have B93 := L12.bl B9B (by simp)
      have hbb' : bb = (!memI (bt x) (i : Int) && !waitB (mkF r).be (bt x) i) := by
        rw [Bool.eq_iff_iff, hbb, ← mem_rdyL (n := (mkF r).st.length) hi]
        simp only [nI, List.mem_map]
        constructor
        · rintro ⟨z, hz, e⟩
          have : z = i := by omega
          rw [← this]; exact hz
        · intro h; exact ⟨i, h, rfl⟩
      have S93 := SB.keep0 L12
      have Su3 := Su.keep0 L12
      have fin : ∀ (C : Hp), Keep (fun _ => False) B3 C → ∀ (K : Value → Hp → Prop), (∀ D u', SetM D u' (abvO (some ((mkF r).st.length, relI (mkF r).be)) (i : Int)) → Keep (fun _ => False) B3 D → Keep (fun _ => False) C D → K u' D) → CallsM P (ι.f 206) #[ov, .int .i64 (i : Int)] C K := fun C KC K hK =>
        (c.abv (some ((mkF r).st.length, relI (mkF r).be)) ov (i : Int) C (OrdV.keep0 hO ((K7B.trans L12).trans KC))).mono fun u' D h => hK D u' h.1 (KC.trans h.2.1) h.2.1
      have fin2 : ∀ (D : Hp) (u' : Value), SetM D u' (abvO (some ((mkF r).st.length, relI (mkF r).be)) (i : Int)) → Keep (fun _ => False) B3 D → ∀ (K : Value → Hp → Prop), (∀ E, Keep (fun _ => False) D E → Keep (fun _ => False) H9 E → K (.bool true) E) → CallsM P (ι.f 141) #[.agg #[u], u'] D K := fun D u' S KD K hK =>
        (c.sub _ _ _ _ D (Su3.keep0 KD) S).mono fun w E h => by
          obtain ⟨⟨b2, rfl, h2⟩, KE⟩ := h
          have : b2 = true := h2.2 fun m hm => dirP_abv hi m hm
          rw [this]
          exact hK E KE (((K9B.trans L12).trans KD).trans KE)
      cases hm : memI (bt x) (i : Int) with
      | true =>
        rw [hm] at hbb'
        simp only [Bool.not_true, Bool.false_and] at hbb'
        subst hbb'
        simp -implicitDefEqProofs only [go_sem, zS, ↓reduceIte, Nat.reduceEqDiff, Nat.reduceAdd, Nat.reduceMul, reduceCtorEq, zU, zV, Int.reduceBEq, Int.reduceBNe, Int.reduceLE, Int.reduceLT, Nat.reduceLeDiff, Nat.reduceLT, zF, Bool.not_true, Bu3.ldNO 1 rfl, forall_const, false_imp_iff]
        refine fin B3 (Keep.refl _ _) _ fun D u' SD KD KC => ?_
        simp -implicitDefEqProofs only [go_sem, zS, ↓reduceIte, Nat.reduceEqDiff, Nat.reduceAdd, Nat.reduceMul, reduceCtorEq, zU, zV, Int.reduceBEq, Int.reduceBNe, Int.reduceLE, Int.reduceLT, Nat.reduceLeDiff, Nat.reduceLT, zF, forall_const]
        refine ⟨KC, fin2 D u' SD KD _ fun E KE K9E => ?_⟩
        simp -implicitDefEqProofs only [go_sem, zS, ↓reduceIte, Nat.reduceEqDiff, Nat.reduceAdd, Nat.reduceMul, reduceCtorEq, kont_eq, zU, zV, Int.reduceBEq, Int.reduceBNe, Int.reduceLE, Int.reduceLT, Nat.reduceLeDiff, Nat.reduceLT, zF, gj, Bool.not_true, forall_const]
        exact ⟨KE, K9E⟩
      | false =>
        rw [hm] at hbb'
        simp only [Bool.not_false, Bool.true_and] at hbb'
        simp -implicitDefEqProofs only [go_sem, zS, ↓reduceIte, Nat.reduceEqDiff, Nat.reduceAdd, Nat.reduceMul, reduceCtorEq, zU, zV, Int.reduceBEq, Int.reduceBNe, Int.reduceLE, Int.reduceLT, Nat.reduceLeDiff, Nat.reduceLT, zF, Bool.not_false, Bu3.ldNO 1 rfl, B93.ldNO 1 rfl, forall_const, false_imp_iff]
        refine (c.sub _ _ _ _ B3 Su3 S93).mono ?_
        rintro w7 B4 ⟨⟨b2, rfl, h2⟩, L3⟩
        have e2 : b2 = bb := by
          rw [hbb', Bool.eq_iff_iff, h2, dirP_sub hbe (by omega), Bool.not_eq_true']
        subst e2
        have Bu4 := L3.bl Bu3 (by simp)
        simp -implicitDefEqProofs only [go_sem, zS, ↓reduceIte, Nat.reduceEqDiff, Nat.reduceAdd, Nat.reduceMul, reduceCtorEq, zU, zV, Int.reduceBEq, Int.reduceBNe, Int.reduceLE, Int.reduceLT, Nat.reduceLeDiff, Nat.reduceLT, zF, Bu4.ldNO 1 rfl, forall_const, false_imp_iff]
        refine ⟨L3, fin B4 L3 _ fun D u' SD KD KC => ?_⟩
        simp -implicitDefEqProofs only [go_sem, zS, ↓reduceIte, Nat.reduceEqDiff, Nat.reduceAdd, Nat.reduceMul, reduceCtorEq, zU, zV, Int.reduceBEq, Int.reduceBNe, Int.reduceLE, Int.reduceLT, Nat.reduceLeDiff, Nat.reduceLT, zF, forall_const]
        refine ⟨KC, fin2 D u' SD KD _ fun E KE K9E => ?_⟩
        simp -implicitDefEqProofs only [go_sem, zS, ↓reduceIte, Nat.reduceEqDiff, Nat.reduceAdd, Nat.reduceMul, reduceCtorEq, kont_eq, zU, zV, Int.reduceBEq, Int.reduceBNe, Int.reduceLE, Int.reduceLT, Nat.reduceLeDiff, Nat.reduceLT, zF, gj, Bool.not_true, forall_const]
        exact ⟨KE, K9E⟩
  · intro g A gi KA
    have K6A := K69.trans KA
    have C5A := K6A.bl C5' (by simp)
    simp -implicitDefEqProofs only [go_sem, zS, ↓reduceIte, Nat.reduceEqDiff, Nat.reduceAdd, Nat.reduceMul, reduceCtorEq, zU, zV, Int.reduceBEq, Int.reduceBNe, Int.reduceLE, Int.reduceLT, Nat.reduceLeDiff, Nat.reduceLT, zF, C5A.ldNO 5 rfl]
    refine (c.ord (mkF r) _ A (hT6.keep K6A) (p6.keep0 K6A) hok).mono ?_
    rintro w1 A1 ⟨O1, o1, L1⟩
    rw [kont_eq]
    simp -implicitDefEqProofs only [go_sem, zS, ↓reduceIte, Nat.reduceEqDiff, Nat.reduceAdd, Nat.reduceMul, reduceCtorEq, zU, zV, Int.reduceBEq, Int.reduceBNe, Int.reduceLE, Int.reduceLT, Nat.reduceLeDiff, Nat.reduceLT, zF]
    refine (c.srt (some ((mkF r).st.length, relI (mkF r).be)) ov A1 (OrdV.keep0 hO ((K79.trans KA).trans L1))).mono ?_
    rintro w2 A2 ⟨O2, o2, L2⟩
    have hsl := (srt_all hG.rng).2 hG.acy
    rw [kont_eq]
    simp -implicitDefEqProofs only [go_sem, zS, ↓reduceIte, Nat.reduceEqDiff, Nat.reduceAdd, Nat.reduceMul, reduceCtorEq, zU, zV, Int.reduceBEq, Int.reduceBNe, Int.reduceLE, Int.reduceLT, Nat.reduceLeDiff, Nat.reduceLT, zF]
    refine (c.eqI (nI (srt (mkF r).st.length (relI (mkF r).be))) (nI (srt (mkF r).st.length (relI (mkF r).be))) w1 w2 A2 (O1.keep L2 (by simp)).sl O2.sl (by simp only [nI, List.length_map]; omega)).mono ?_
    rintro w A3 ⟨rfl, rfl⟩
    rw [kont_eq]
    simp -implicitDefEqProofs only [go_sem, zS, ↓reduceIte, Nat.reduceEqDiff, Nat.reduceAdd, Nat.reduceMul, reduceCtorEq, kont_eq, zU, zV, Int.reduceBEq, Int.reduceBNe, Int.reduceLE, Int.reduceLT, Nat.reduceLeDiff, Nat.reduceLT, zF, decide_true]
    rw [hQ]
    exact ⟨rfl, (K06.trans K6A).trans (L1.trans L2)⟩
end Go.Mg
