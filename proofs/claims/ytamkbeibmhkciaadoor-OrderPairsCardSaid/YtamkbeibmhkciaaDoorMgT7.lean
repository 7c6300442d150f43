/- order: the law Pairs. -/
import Derived.Test.YtamkbeibmhkciaaDoorMgT6
namespace Go.Mg
open Go Go.RowKit
set_option linter.unusedSimpArgs false
set_option linter.unusedVariables false
set_option maxRecDepth 100000
/- arbaclaw06.OrderPairs -/
def c_lpairs (ι : Ids) : S :=
  .seq (.reg [.e (.v 3) (.box (ι.t 263) (.v 0)), .e (.v 4) (.box (ι.t 263) (.v 1)), .p (.v 6) (.mv (.c (.bool false)))]) (.seq (.seq (.reg [.e (.t 16) (.call (ι.f 270) []), .p (.v 17) (.not (.t 16))])
  (.ite (.v 17) (.seq (.reg [.p (.v 6) (.mv (.c (.bool false)))]) .ret) .skip)) (.seq (.reg [.p (.t 19) (.m (.ldn 4 (.v 3))), .e (.t 20) (.call (ι.f 268) [.t 19]), .p (.t 18) (.mv (.t 20)), .p (.t 21)
  (.ext (.t 18) 0), .p (.t 22) (.ext (.t 18) 1), .e (.v 8) (.new (ι.t 246) #[.int .i64 0, .slice .none 0 0]), .p (.v 7) (.mv (.t 21)), .e .no (.stn 2 (.v 8) (.t 22))]) (.seq (.reg [.p (.t 24) (.m (.ldn
  4 (.v 4))), .e (.t 25) (.call (ι.f 268) [.t 24]), .p (.t 23) (.mv (.t 25)), .p (.t 26) (.ext (.t 23) 0), .p (.t 27) (.ext (.t 23) 1), .e (.v 10) (.new (ι.t 246) #[.int .i64 0, .slice .none 0 0]), .p
  (.v 9) (.mv (.t 26)), .e .no (.stn 2 (.v 10) (.t 27))]) (.seq (.seq (.reg [.p (.t 28) (.mv (.v 7)), .p (.t 29) (.m (.eqn .ptr false (.t 28))), .p (.t 30) (.mv (.t 29)), .gp (.t 31) (.t 30) false (.mv
  (.v 9)), .gp (.t 32) (.t 30) false (.m (.eqn .ptr false (.t 31))), .p (.v 33) (.pick (.t 30) (.c (.bool true)) (.t 32))]) (.ite (.v 33) (.seq (.reg [.p (.v 6) (.mv (.c (.bool false)))]) .ret) .skip))
  (.seq (.reg [.p (.t 34) (.m (.ldn 4 (.v 3))), .e (.t 35) (.call (ι.f 266) [.t 34]), .p (.v 11) (.mv (.t 35))]) (.seq (.seq (.reg [.p (.t 36) (.mv (.v 11)), .p (.t 37) (.m (.lenl (.t 36))), .p (.v 38)
  (.cm .gtr .i64 (.t 37) (.c (.int .i64 0)))]) (.ite (.v 38) (.seq (.reg [.p (.t 39) (.mv (.v 2)), .p (.t 40) (.ii .i64 (.t 39)), .p (.t 41) (.mv (.v 11)), .p (.t 42) (.m (.lenl (.t 41))), .p (.t 43)
  (.dv .rem .i64 (.t 40) (.t 42)), .p (.v 12) (.mv (.t 43))]) (.dr (.px (.t 45) .none (.mv (.v 11)) (.px (.t 46) .none (.mv (.v 12)) (.px (.t 47) .none (.m (.sls 2 (.t 45) (.some (.t 46)) .none)) (.px
  (.t 49) .none (.mv (.v 11)) (.px (.t 50) .none (.mv (.v 12)) (.px (.t 51) .none (.m (.sls 2 (.t 49) .none (.some (.t 50)))) (.wcons (.t 44) .none (.bldF (ι.t 194) 2 0 []) (.wcons (.t 48) .none (.app
  false (ι.t 194) 2 16 #[.int .i64 0, .int .i64 0] (.t 44) (.t 47)) (.wcons (.t 52) .none (.app false (ι.t 194) 2 16 #[.int .i64 0, .int .i64 0] (.t 48) (.t 51)) (.px (.v 11) .none (.mv (.t 52)) .done)
  .wnil) .wnil) .wnil))))))))) .skip)) (.seq (.reg [.p (.t 54) (.m (.ldn 4 (.v 3))), .e (.t 55) (.call (ι.f 264) [.t 54]), .p (.t 56) (.mv (.v 11)), .e (.t 57) (.call (ι.f 201) [.t 55, .t 56]), .p (.t
  53) (.mv (.t 57)), .p (.t 58) (.ext (.t 53) 0), .p (.t 59) (.ext (.t 53) 1), .p (.v 13) (.mv (.t 58)), .p (.v 14) (.mv (.t 59))]) (.seq (.reg [.p (.t 60) (.fa 0 (.v 8)), .p (.t 61) (.ld (.t 60)), .p
  (.t 62) (.fa 0 (.v 10)), .p (.t 63) (.ld (.t 62)), .p (.t 64) (.cm .eql .i64 (.t 61) (.t 63)), .p (.t 65) (.mv (.t 64)), .gp (.t 66) (.t 65) true (.fa 1 (.v 8)), .gp (.t 67) (.t 65) true (.ld (.t
  66)), .gp (.t 68) (.t 65) true (.fa 1 (.v 10)), .gp (.t 69) (.t 65) true (.ld (.t 68)), .ge (.t 70) (.t 65) true (.call (ι.f 229) [.t 67, .t 69]), .p (.t 71) (.pick (.t 65) (.t 70) (.c (.bool
  false))), .p (.v 15) (.mv (.t 71))]) (.seq (.reg [.p (.t 72) (.mv (.v 14)), .p (.t 73) (.cm .eql .i64 (.t 72) (.c (.int .i64 0))), .p (.t 74) (.mv (.t 73)), .gp (.t 75) (.t 74) true (.mv (.v 7)), .gp
  (.t 76) (.t 74) true (.mv (.v 13)), .ge (.t 77) (.t 74) true (.call (ι.f 232) [.t 75, .t 76]), .p (.t 78) (.pick (.t 74) (.t 77) (.c (.bool false))), .p (.t 79) (.mv (.t 78)), .gp (.t 80) (.t 79) true
  (.mv (.v 7)), .gp (.t 81) (.t 79) true (.mv (.v 9)), .ge (.t 82) (.t 79) true (.call (ι.f 232) [.t 80, .t 81]), .gp (.t 83) (.t 79) true (.mv (.v 15)), .gp (.t 84) (.t 79) true (.eqb false (.t 82) (.t
  83)), .p (.t 85) (.pick (.t 79) (.t 84) (.c (.bool false))), .p (.t 86) (.mv (.t 85)), .gp (.t 87) (.t 86) true (.mv (.v 9)), .gp (.t 88) (.t 86) true (.mv (.v 7)), .ge (.t 89) (.t 86) true (.call
  (ι.f 232) [.t 87, .t 88]), .gp (.t 90) (.t 86) true (.mv (.v 15)), .gp (.t 91) (.t 86) true (.eqb false (.t 89) (.t 90)), .p (.t 92) (.pick (.t 86) (.t 91) (.c (.bool false))), .p (.v 6) (.mv (.t
  92))]) .ret)))))))))
def r_lpairs : List RV := [.t 6]

structure PrsC (P : Program) (ι : Ids) : Prop where
  sz : RSizeSpec P (ι.f 264)
  fit : RFitSpec P (ι.f 266)
  nw : ONewSpec P ι (ι.f 201)
  eq : OEqSpec P (ι.f 232)
  eqP : PEqSpec P (ι.f 229)
theorem fit_perm {r : RawN} {l : List NP} (h : ∀ p, p ∈ l ↔ p ∈ fitL r) : (∀ p ∈ l.map toI, okP (szR r : Int) p) ∧ relI (l.map toI) = relF r := by
  constructor
  · intro p hp
    obtain ⟨q, hq, rfl⟩ := List.mem_map.1 hp
    exact fit_ok r _ (List.mem_map.2 ⟨q, (h q).1 hq, rfl⟩)
  · funext a b
    show decide (((a : Int), (b : Int)) ∈ l.map toI) = _
    rw [inP_dec]
    unfold relF inP
    exact decide_eq_decide.2 (h _)
def LawPSpec (P : Program) (ι : Ids) (k : FuncId) : Prop := ∀ (r s : RawN) (v w : Value) (t : Nat) (H : Hp), TabOk ι H → RawV H v r → RawV H w s → t < 256 → CallsM P k #[v, w, .int .u8 (t : Int)] H fun x H' => x = .bool true ∧ Keep (fun _ => False) H H'
theorem lpairs_ok {P : Program} {ι : Ids} {k : FuncId} (hk : FnIs P k (c_lpairs ι) r_lpairs 3) (c : LawC P ι) (e : PrsC P ι) : LawPSpec P ι k := by
  intro r s v w t H hT hv hw ht256
  have hv0 := hv
  have hw0 := hw
  obtain ⟨rp, rfl, hp, hl⟩ := hv
  obtain ⟨sp, rfl, hsp, hsl⟩ := hw
  obtain ⟨Q, hQ⟩ : ∃ Q : Value → Hp → Prop, Q = fun x H' => x = .bool true ∧ Keep (fun _ => False) H H' := ⟨_, rfl⟩
  rw [← hQ]
  refine calls_of_vc hk (args := [_, _, _]) (by simp) ?_
  unfold c_lpairs r_lpairs
  simp only [go_sem, List.map_cons, List.map_nil, ↓reduceIte, Nat.reduceEqDiff, Nat.reduceAdd, Nat.reduceMul, reduceCtorEq, and_true, true_and, Nat.mul_one, Nat.zero_add, Bool.false_eq_true, decide_true, decide_false, not_false_eq_true]
  refine kont_new fun H0 b0 e0 z0 B0 K0 => ?_
  have s0 := K0.size
  have B0' : Bl H0 b0 [.int .u8 (r.N : Int), .int .u8 (r.T : Int), .int .u8 (r.A : Int), rp] := B0
  simp only [go_sem, List.map_cons, List.map_nil, ↓reduceIte, Nat.reduceEqDiff, Nat.reduceAdd, Nat.reduceMul, reduceCtorEq, and_true, true_and, Nat.mul_one, Nat.zero_add, Bool.false_eq_true, decide_true, decide_false, not_false_eq_true]
  refine kont_new fun H1 b1 e1 z1 B1 K1 => ?_
  have s1 := K1.size
  have B1' : Bl H1 b1 [.int .u8 (s.N : Int), .int .u8 (s.T : Int), .int .u8 (s.A : Int), sp] := B1
  have D1 := K1.bl B0' (by simp)
  have K01 := K0.trans K1
  simp only [go_sem, List.map_cons, List.map_nil, ↓reduceIte, Nat.reduceEqDiff, Nat.reduceAdd, Nat.reduceMul, reduceCtorEq, and_true, true_and, Nat.mul_one, Nat.zero_add, Bool.false_eq_true, decide_true, decide_false, not_false_eq_true, kont_eq]
  refine (c.awk H1 (hT.keep K01)).mono ?_
  rintro x H2 ⟨rfl, K2⟩
  have B2 := K2.bl B1' (by simp)
  have D2 := K2.bl D1 (by simp)
  have K02 := K01.trans K2
  rw [kont_eq]
  simp only [go_sem, List.map_cons, List.map_nil, ↓reduceIte, Nat.reduceEqDiff, Nat.reduceAdd, Nat.reduceMul, reduceCtorEq, and_true, true_and, Nat.mul_one, Nat.zero_add, Bool.false_eq_true, decide_true, decide_false, not_false_eq_true, kont_eq, D2.ldNO 4 rfl]
  refine (c.mak r _ H2 (hT.keep K02) (hv0.keep0 K02)).mono ?_
  rintro x H3 ⟨ov, tv, rfl, ho, ht, _, _, K3⟩
  have K03 := K02.trans K3
  have B3 := K3.bl B2 (by simp)
  have D3 := K3.bl D2 (by simp)
  obtain ⟨ob, rfl⟩ := ptr_of ho
  have ht0 := ht
  obtain ⟨hn, hR, pv, rfl, hpv⟩ := ht
  rw [kont_eq]
  simp only [go_sem, List.map_cons, List.map_nil, ↓reduceIte, Nat.reduceEqDiff, Nat.reduceAdd, Nat.reduceMul, reduceCtorEq, and_true, true_and, Nat.mul_one, Nat.zero_add, Bool.false_eq_true, decide_true, decide_false, not_false_eq_true, fillV_nil, fillV_cons, okFill_nil, okFill_cons, cells_slice, cells_int, cells_bool, cells_str, cells_ptr, cells_agg, stNH_ptr, okN_ptr, wrA1, wrA20, wrA21]
  refine kont_new fun H4 b4 e4 z4 B4 K4 => ?_
  have sH4 := K4.size
  have hstH4 := B4.okNA (o := 0) (n := 2) (by simp)
  have B5 : Bl (stNA H4 ⟨b4, 0, none⟩ [.int .i64 (szR r : Int), pv]) b4 [.int .i64 (szR r : Int), pv] := B4.stNA 0 [.int .i64 (szR r : Int), pv]
  have K5 : Keep (fun q => q = b4) H4 (stNA H4 ⟨b4, 0, none⟩ [.int .i64 (szR r : Int), pv]) := (Keep.refl _ _).stNA _ (.inl rfl)
  have hslH4 := hpv.isSl
  have haH4 : all1 #[Value.int .i64 (szR r : Int), pv] := fun u hu => by
    simp at hu
    rcases hu with rfl | rfl
    · rfl
    · cases u <;> first | rfl | exact hslH4.elim
  simp only [go_sem, List.map_cons, List.map_nil, ↓reduceIte, Nat.reduceEqDiff, Nat.reduceAdd, Nat.reduceMul, reduceCtorEq, and_true, true_and, Nat.mul_one, Nat.zero_add, Bool.false_eq_true, decide_true, decide_false, not_false_eq_true, fillV_nil, fillV_cons, okFill_nil, okFill_cons, cells_slice, cells_int, cells_bool, cells_str, cells_ptr, cells_agg, stNH_ptr, okN_ptr, wrA1, wrA20, wrA21, hstH4]
  refine ⟨haH4, ?_⟩
  rw [kont_eq]
  generalize stNA H4 ⟨b4, 0, none⟩ [.int .i64 (szR r : Int), pv] = H5 at B5 K5 ⊢
  have K35 : Keep (fun _ => False) _ H5 := K4.to_old K5 (by omega)
  have K05 := K03.trans K35
  have B5s := K35.bl B3 (by simp)
  have D5s := K35.bl D3 (by simp)
  simp only [go_sem, List.map_cons, List.map_nil, ↓reduceIte, Nat.reduceEqDiff, Nat.reduceAdd, Nat.reduceMul, reduceCtorEq, and_true, true_and, Nat.mul_one, Nat.zero_add, Bool.false_eq_true, decide_true, decide_false, not_false_eq_true, kont_eq, B5s.ldNO 4 rfl]
  refine (c.mak s _ H5 (hT.keep K05) (hw0.keep0 K05)).mono ?_
  rintro x H6 ⟨ov2, tv2, rfl, ho2, ht2, _, _, K6⟩
  have K06 := K05.trans K6
  have K36 := K35.trans K6
  have D6 := K36.bl D3 (by simp)
  have t6 := K6.bl B5 (by simp)
  obtain ⟨ob2, rfl⟩ := ptr_of ho2
  have ht20 := ht2
  obtain ⟨hn2, hR2, pv2, rfl, hpv2⟩ := ht2
  rw [kont_eq]
  simp only [go_sem, List.map_cons, List.map_nil, ↓reduceIte, Nat.reduceEqDiff, Nat.reduceAdd, Nat.reduceMul, reduceCtorEq, and_true, true_and, Nat.mul_one, Nat.zero_add, Bool.false_eq_true, decide_true, decide_false, not_false_eq_true, fillV_nil, fillV_cons, okFill_nil, okFill_cons, cells_slice, cells_int, cells_bool, cells_str, cells_ptr, cells_agg, stNH_ptr, okN_ptr, wrA1, wrA20, wrA21]
  refine kont_new fun H7 b7 e7 z7 B7 K7 => ?_
  have sH7 := K7.size
  have hstH7 := B7.okNA (o := 0) (n := 2) (by simp)
  have B8 : Bl (stNA H7 ⟨b7, 0, none⟩ [.int .i64 (szR s : Int), pv2]) b7 [.int .i64 (szR s : Int), pv2] := B7.stNA 0 [.int .i64 (szR s : Int), pv2]
  have K8 : Keep (fun q => q = b7) H7 (stNA H7 ⟨b7, 0, none⟩ [.int .i64 (szR s : Int), pv2]) := (Keep.refl _ _).stNA _ (.inl rfl)
  have hslH7 := hpv2.isSl
  have haH7 : all1 #[Value.int .i64 (szR s : Int), pv2] := fun u hu => by
    simp at hu
    rcases hu with rfl | rfl
    · rfl
    · cases u <;> first | rfl | exact hslH7.elim
  simp only [go_sem, List.map_cons, List.map_nil, ↓reduceIte, Nat.reduceEqDiff, Nat.reduceAdd, Nat.reduceMul, reduceCtorEq, and_true, true_and, Nat.mul_one, Nat.zero_add, Bool.false_eq_true, decide_true, decide_false, not_false_eq_true, fillV_nil, fillV_cons, okFill_nil, okFill_cons, cells_slice, cells_int, cells_bool, cells_str, cells_ptr, cells_agg, stNH_ptr, okN_ptr, wrA1, wrA20, wrA21, hstH7]
  refine ⟨haH7, ?_⟩
  rw [kont_eq]
  generalize stNA H7 ⟨b7, 0, none⟩ [.int .i64 (szR s : Int), pv2] = H8 at B8 K8 ⊢
  have K68 : Keep (fun _ => False) _ H8 := K7.to_old K8 (by omega)
  have K08 := K06.trans K68
  have K38 := K36.trans K68
  have t8 := K68.bl t6 (by simp)
  have D8 := K68.bl D6 (by simp)
  have o8 : OrdO H8 (.pointer (some ⟨ob, 0, none⟩)) (some (szR r, relF r)) := OrdO.keep0 (o := some (szR r, relF r)) ho K38
  have p8 : OrdO H8 (.pointer (some ⟨ob2, 0, none⟩)) (some (szR s, relF s)) := OrdO.keep0 (o := some (szR s, relF s)) ho2 K68
  simp only [go_sem, List.map_cons, List.map_nil, ↓reduceIte, Nat.reduceEqDiff, Nat.reduceAdd, Nat.reduceMul, reduceCtorEq, and_true, true_and, Nat.mul_one, Nat.zero_add, Bool.false_eq_true, decide_true, decide_false, not_false_eq_true, kont_eq, fillV_nil, fillV_cons, okFill_nil, okFill_cons, cells_slice, cells_int, cells_bool, cells_str, cells_ptr, cells_agg, stNH_ptr, okN_ptr, wrA1, wrA20, wrA21, D8.ldNO 4 rfl]
  refine (e.fit r _ H8 (hv0.keep0 K08)).mono ?_
  rintro lv H9 ⟨O9, o9, K9⟩
  have s9 := K9.size
  have K09 := K08.trans K9
  have D9 := K9.bl D8 (by simp)
  have hsr := szR_lt r
  have hss := szR_lt s
  obtain ⟨la, lc, rfl, hlc⟩ := O9.sl.mk
  have hfl := fitL_len r
  have same_ns : ∀ (x y : Nat), (eqO (some (szR r, relF r)) (some (szR s, relF s)) == (decide (szR r = szR s) && decide (gridP (szR r) (relF r) = gridP (szR s) (relF s)))) = true ∧ (eqO (some (szR s, relF s)) (some (szR r, relF r)) == (decide (szR r = szR s) && decide (gridP (szR r) (relF r) = gridP (szR s) (relF s)))) = true := fun _ _ => by
    constructor
    · rw [beq_iff_eq, Bool.eq_iff_iff]
      simp [eqO]
    · rw [beq_iff_eq, Bool.eq_iff_iff]
      simp only [eqO, Bool.and_eq_true, decide_eq_true_eq]
      exact ⟨fun h => ⟨h.1.symm, h.2.symm⟩, fun h => ⟨h.1.symm, h.2.symm⟩⟩
  obtain ⟨se1, se2⟩ := same_ns 0 0
  rw [kont_eq]
  simp only [go_sem, List.map_cons, List.map_nil, ↓reduceIte, Nat.reduceEqDiff, Nat.reduceAdd, Nat.reduceMul, reduceCtorEq, and_true, true_and, Nat.mul_one, Nat.zero_add, Bool.false_eq_true, decide_true, decide_false, not_false_eq_true, kont_eq, O9.sl.isSl, O9.sl.lenS, O9.sl.len]
  by_cases hpos : 0 < (fitL r).length
  · have e9 : decide (((fitL r).length : Int) > 0) = true := decide_eq_true (by omega)
    obtain ⟨kk, hkk⟩ : ∃ kk, kk = t % (fitL r).length := ⟨_, rfl⟩
    have hkl : kk < (fitL r).length := by rw [hkk]; exact Nat.mod_lt _ hpos
    have i1 : IntKind.i64.wrap (t : Int) = t := IntWalk.i64_in _ (by omega)
    have hX := O9.sl.dropV nE_len (Nat.le_of_lt hkl)
    have hY := O9.sl.takeV nE_len (Nat.le_of_lt hkl)
    simp only [go_sem, List.map_cons, List.map_nil, ↓reduceIte, Nat.reduceEqDiff, Nat.reduceAdd, Nat.reduceMul, reduceCtorEq, and_true, true_and, Nat.mul_one, Nat.zero_add, Bool.false_eq_true, decide_true, decide_false, not_false_eq_true, kont_eq, e9, i1, tmod_nat, ← hkk]
    refine ⟨by omega, ?_⟩
    refine vc_drk (fun q => H9.size ≤ q) ?_
    obtain ⟨wx, hwx⟩ : ∃ wx, wx = slV (.slice la (fitL r).length lc) 2 (some (kk : Int)) none := ⟨_, rfl⟩
    obtain ⟨wy, hwy⟩ : ∃ wy, wy = slV (.slice la (fitL r).length lc) 2 none (some (kk : Int)) := ⟨_, rfl⟩
    rw [← hwx] at hX
    rw [← hwy] at hY
    have fx : Value.slice (if lc = kk then la else Option.map (fun x => x.add (kk * 2)) la) ((fitL r).length - kk) (lc - kk) = wx := by
      rw [hwx, slV_slice]
      simp only [loN, hiN, Option.getD_some, Int.toNat_natCast]
      by_cases h : lc = kk <;> simp only [h, if_true, if_false]
    have fy : Value.slice (if lc = 0 then la else Option.map (fun x => x) la) kk lc = wy := by
      rw [hwy, slV_slice]
      simp [loN, hiN, Addr.add]
    simp only [go_sem, List.map_cons, List.map_nil, ↓reduceIte, Nat.reduceEqDiff, Nat.reduceAdd, Nat.reduceMul, reduceCtorEq, and_true, true_and, Nat.mul_one, Nat.zero_add, Bool.false_eq_true, decide_true, decide_false, not_false_eq_true, kont_eq, fillV_nil, fillV_cons, okFill_nil, okFill_cons, cells_slice, cells_int, cells_bool, cells_str, cells_ptr, cells_agg, stNH_ptr, okN_ptr, wrA1, wrA20, wrA21]
    rw [fx, fy]
    obtain ⟨ee, hee⟩ : ∃ ee, ee = Obj.cells (#[] : Array Value) (ι.t 194) := ⟨_, rfl⟩
    rw [← hee]
    have k1 := (Keep.refl (fun _ => False) H9).push ee
    have z1 : (H9.push ee).size = H9.size + 1 := by simp
    have e1 : OwE nE 2 (H9.push ee) (.slice (some ⟨H9.size, 0, none⟩) 0 0) ([] : List NP) := by
      rw [hee]; exact OwE.bl (Bl.new' H9 #[] (ι.t 194)) rfl (by omega) (by omega) (by simp)
    refine ⟨by omega, by omega, k1.any, ?_⟩
    refine app_EN (l := ([] : List NP)) (m := (fitL r).drop kk) H9.size nE_len nE_one e1 (fun q (hq : q = H9.size) => by omega) (by omega) (hX.keep0 k1) rfl (by omega) (by simp; omega) fun va A1 OA oA KA => ?_
    rw [List.nil_append] at OA
    have k1A : Keep (fun _ => False) H9 A1 := k1.at_old KA (Nat.le_refl _)
    have sA1 := k1A.size
    simp only [go_sem, List.map_cons, List.map_nil, ↓reduceIte, Nat.reduceEqDiff, Nat.reduceAdd, Nat.reduceMul, reduceCtorEq, and_true, true_and, Nat.mul_one, Nat.zero_add, Bool.false_eq_true, decide_true, decide_false, not_false_eq_true, kont_eq, fillV_nil, fillV_cons, okFill_nil, okFill_cons, cells_slice, cells_int, cells_bool, cells_str, cells_ptr, cells_agg, stNH_ptr, okN_ptr, wrA1, wrA20, wrA21]
    refine ⟨KA, ?_⟩
    refine app_EN (l := (fitL r).drop kk) (m := (fitL r).take kk) H9.size nE_len nE_one OA oA (by omega) (hY.keep0 k1A) rfl (by omega) (by simp; omega) fun vb A2 OB oB KB2 => ?_
    have k1B : Keep (fun _ => False) H9 A2 := k1A.at_old KB2 (Nat.le_refl _)
    have DB := k1B.bl D9 (by simp)
    have hperm : ∀ p, p ∈ (fitL r).drop kk ++ (fitL r).take kk ↔ p ∈ fitL r := fun p => by
      conv => rhs; rw [← List.take_append_drop kk (fitL r)]
      rw [List.mem_append, List.mem_append]
      exact Or.comm
    have hlen2 : ((fitL r).drop kk ++ (fitL r).take kk).length ≤ 12 := by simp; omega
    simp only [go_sem, List.map_cons, List.map_nil, ↓reduceIte, Nat.reduceEqDiff, Nat.reduceAdd, Nat.reduceMul, reduceCtorEq, and_true, true_and, Nat.mul_one, Nat.zero_add, Bool.false_eq_true, decide_true, decide_false, not_false_eq_true, kont_eq, fillV_nil, fillV_cons, okFill_nil, okFill_cons, cells_slice, cells_int, cells_bool, cells_str, cells_ptr, cells_agg, stNH_ptr, okN_ptr, wrA1, wrA20, wrA21, DB.ldNO 4 rfl]
    refine ⟨KB2, ?_⟩
    refine (e.sz r _ A2 (hv0.keep0 (K09.trans k1B))).mono ?_
    rintro y HB ⟨rfl, KB⟩
    have KAB := k1B.trans KB
    obtain ⟨hok', hrel'⟩ := fit_perm hperm
    rw [kont_eq]
    simp only [go_sem, List.map_cons, List.map_nil, ↓reduceIte, Nat.reduceEqDiff, Nat.reduceAdd, Nat.reduceMul, reduceCtorEq, and_true, true_and, Nat.mul_one, Nat.zero_add, Bool.false_eq_true, decide_true, decide_false, not_false_eq_true, kont_eq, fillV_nil, fillV_cons, okFill_nil, okFill_cons, cells_slice, cells_int, cells_bool, cells_str, cells_ptr, cells_agg, stNH_ptr, okN_ptr, wrA1, wrA20, wrA21]
    refine (e.nw (szR r : Int) (((fitL r).drop kk ++ (fitL r).take kk).map toI) _ HB (hT.keep (K09.trans KAB)) ((OB.sl.keep0 KB).conv (by simp) (toI_flat _)) (by rw [List.length_map]; omega)).mono ?_
    rintro y HC ⟨hy, KC, _⟩
    have KAC := KAB.trans KC
    obtain ⟨qv, rfl, hq⟩ : ∃ qv, y = .tuple #[qv, .int .i64 0] ∧ OrdV HC qv (szR r) (relF r) := by
      rcases hy with ⟨h, _⟩ | ⟨_, h, _⟩ | ⟨_, _, h, _⟩ | ⟨_, _, _, v, h1, h2⟩
      · unfold badN at h; omega
      · exact absurd hok' h
      · rw [hrel'] at h; exact absurd (relF_acy r) h
      · rw [hrel', Int.toNat_natCast] at h2; exact ⟨v, h1, h2⟩
    have K8C := K9.trans KAC
    have tC := K8C.bl t8 (by simp)
    have uC := K8C.bl B8 (by simp)
    have c0 : cell HC ⟨b4, 0, none⟩ = some (.int .i64 (szR r : Int)) := by rw [tC.cell]; rfl
    have c1 : cell HC ⟨b4, 1, none⟩ = some pv := by rw [tC.cell]; rfl
    have d0 : cell HC ⟨b7, 0, none⟩ = some (.int .i64 (szR s : Int)) := by rw [uC.cell]; rfl
    have d1 : cell HC ⟨b7, 1, none⟩ = some pv2 := by rw [uC.cell]; rfl
    have qO : OrdO HC qv (some (szR r, relF r)) := hq
    have oC := OrdO.keep0 (o := some (szR r, relF r)) o8 K8C
    have pC := OrdO.keep0 (o := some (szR s, relF s)) p8 K8C
    have e00 : ((0 : Int) == 0) = true := rfl
    have eqq : eqO (some (szR r, relF r)) (some (szR r, relF r)) = true := by simp [eqO]
    rw [kont_eq]
    by_cases hnn : szR r = szR s
    · have e1 : ((szR r : Int) == (szR s : Int)) = true := by rw [hnn]; simp
      simp only [go_sem, List.map_cons, List.map_nil, ↓reduceIte, Nat.reduceEqDiff, Nat.reduceAdd, Nat.reduceMul, reduceCtorEq, and_true, true_and, Nat.mul_one, Nat.zero_add, Bool.false_eq_true, decide_true, decide_false, not_false_eq_true, kont_eq, fillV_nil, fillV_cons, okFill_nil, okFill_cons, cells_slice, cells_int, cells_bool, cells_str, cells_ptr, cells_agg, stNH_ptr, okN_ptr, wrA1, wrA20, wrA21, c0, c1, d0, d1, e1]
      refine (e.eqP (gridP (szR r) (relF r)) (gridP (szR s) (relF s)) pv pv2 HC (hpv.keep0 (K38.trans K8C)) (hpv2.keep0 (K68.trans K8C)) (by have := gridP_len16 (relF r) hn; omega)).mono ?_
      rintro y HD ⟨rfl, rfl⟩
      rw [decide_eq_true hnn, Bool.true_and] at se1 se2
      rw [kont_eq]
      simp only [go_sem, List.map_cons, List.map_nil, ↓reduceIte, Nat.reduceEqDiff, Nat.reduceAdd, Nat.reduceMul, reduceCtorEq, and_true, true_and, Nat.mul_one, Nat.zero_add, Bool.false_eq_true, decide_true, decide_false, not_false_eq_true, kont_eq, fillV_nil, fillV_cons, okFill_nil, okFill_cons, cells_slice, cells_int, cells_bool, cells_str, cells_ptr, cells_agg, stNH_ptr, okN_ptr, wrA1, wrA20, wrA21, e00]
      refine (e.eq (some (szR r, relF r)) (some (szR r, relF r)) _ qv HD oC qO).mono ?_
      rintro y HE ⟨rfl, rfl⟩
      rw [kont_eq, eqq]
      simp only [go_sem, List.map_cons, List.map_nil, ↓reduceIte, Nat.reduceEqDiff, Nat.reduceAdd, Nat.reduceMul, reduceCtorEq, and_true, true_and, Nat.mul_one, Nat.zero_add, Bool.false_eq_true, decide_true, decide_false, not_false_eq_true, kont_eq, fillV_nil, fillV_cons, okFill_nil, okFill_cons, cells_slice, cells_int, cells_bool, cells_str, cells_ptr, cells_agg, stNH_ptr, okN_ptr, wrA1, wrA20, wrA21]
      refine (e.eq (some (szR r, relF r)) (some (szR s, relF s)) _ _ HE oC pC).mono ?_
      rintro y HF ⟨rfl, rfl⟩
      rw [kont_eq]
      simp only [go_sem, List.map_cons, List.map_nil, ↓reduceIte, Nat.reduceEqDiff, Nat.reduceAdd, Nat.reduceMul, reduceCtorEq, and_true, true_and, Nat.mul_one, Nat.zero_add, Bool.false_eq_true, decide_true, decide_false, not_false_eq_true, kont_eq, fillV_nil, fillV_cons, okFill_nil, okFill_cons, cells_slice, cells_int, cells_bool, cells_str, cells_ptr, cells_agg, stNH_ptr, okN_ptr, wrA1, wrA20, wrA21, se1]
      refine (e.eq (some (szR s, relF s)) (some (szR r, relF r)) _ _ HF pC oC).mono ?_
      rintro y HG ⟨rfl, rfl⟩
      rw [kont_eq]
      simp only [go_sem, List.map_cons, List.map_nil, ↓reduceIte, Nat.reduceEqDiff, Nat.reduceAdd, Nat.reduceMul, reduceCtorEq, and_true, true_and, Nat.mul_one, Nat.zero_add, Bool.false_eq_true, decide_true, decide_false, not_false_eq_true, kont_eq, fillV_nil, fillV_cons, okFill_nil, okFill_cons, cells_slice, cells_int, cells_bool, cells_str, cells_ptr, cells_agg, stNH_ptr, okN_ptr, wrA1, wrA20, wrA21, se2]
      rw [hQ]
      exact ⟨rfl, K09.trans KAC⟩
    · have e1 : ((szR r : Int) == (szR s : Int)) = false := by simp only [beq_eq_false_iff_ne, ne_eq]; omega
      simp only [go_sem, List.map_cons, List.map_nil, ↓reduceIte, Nat.reduceEqDiff, Nat.reduceAdd, Nat.reduceMul, reduceCtorEq, and_true, true_and, Nat.mul_one, Nat.zero_add, Bool.false_eq_true, decide_true, decide_false, not_false_eq_true, kont_eq, fillV_nil, fillV_cons, okFill_nil, okFill_cons, cells_slice, cells_int, cells_bool, cells_str, cells_ptr, cells_agg, stNH_ptr, okN_ptr, wrA1, wrA20, wrA21, c0, c1, d0, d1, e1, e00]
      rw [decide_eq_false hnn, Bool.false_and] at se1 se2
      refine (e.eq (some (szR r, relF r)) (some (szR r, relF r)) _ qv HC oC qO).mono ?_
      rintro y HE ⟨rfl, rfl⟩
      rw [kont_eq, eqq]
      simp only [go_sem, List.map_cons, List.map_nil, ↓reduceIte, Nat.reduceEqDiff, Nat.reduceAdd, Nat.reduceMul, reduceCtorEq, and_true, true_and, Nat.mul_one, Nat.zero_add, Bool.false_eq_true, decide_true, decide_false, not_false_eq_true, kont_eq, fillV_nil, fillV_cons, okFill_nil, okFill_cons, cells_slice, cells_int, cells_bool, cells_str, cells_ptr, cells_agg, stNH_ptr, okN_ptr, wrA1, wrA20, wrA21]
      refine (e.eq (some (szR r, relF r)) (some (szR s, relF s)) _ _ HE oC pC).mono ?_
      rintro y HF ⟨rfl, rfl⟩
      rw [kont_eq]
      simp only [go_sem, List.map_cons, List.map_nil, ↓reduceIte, Nat.reduceEqDiff, Nat.reduceAdd, Nat.reduceMul, reduceCtorEq, and_true, true_and, Nat.mul_one, Nat.zero_add, Bool.false_eq_true, decide_true, decide_false, not_false_eq_true, kont_eq, fillV_nil, fillV_cons, okFill_nil, okFill_cons, cells_slice, cells_int, cells_bool, cells_str, cells_ptr, cells_agg, stNH_ptr, okN_ptr, wrA1, wrA20, wrA21, se1]
      refine (e.eq (some (szR s, relF s)) (some (szR r, relF r)) _ _ HF pC oC).mono ?_
      rintro y HG ⟨rfl, rfl⟩
      rw [kont_eq]
      simp only [go_sem, List.map_cons, List.map_nil, ↓reduceIte, Nat.reduceEqDiff, Nat.reduceAdd, Nat.reduceMul, reduceCtorEq, and_true, true_and, Nat.mul_one, Nat.zero_add, Bool.false_eq_true, decide_true, decide_false, not_false_eq_true, kont_eq, fillV_nil, fillV_cons, okFill_nil, okFill_cons, cells_slice, cells_int, cells_bool, cells_str, cells_ptr, cells_agg, stNH_ptr, okN_ptr, wrA1, wrA20, wrA21, se2]
      rw [hQ]
      exact ⟨rfl, K09.trans KAC⟩
  · have e9 : decide (((fitL r).length : Int) > 0) = false := decide_eq_false (by omega)
    simp only [go_sem, List.map_cons, List.map_nil, ↓reduceIte, Nat.reduceEqDiff, Nat.reduceAdd, Nat.reduceMul, reduceCtorEq, and_true, true_and, Nat.mul_one, Nat.zero_add, Bool.false_eq_true, decide_true, decide_false, not_false_eq_true, kont_eq, e9, D9.ldNO 4 rfl]
    refine (e.sz r _ H9 (hv0.keep0 (K09.trans (Keep.refl (fun _ => False) H9)))).mono ?_
    rintro y HB ⟨rfl, KB⟩
    have KAB := (Keep.refl (fun _ => False) H9).trans KB
    obtain ⟨hok', hrel'⟩ := fit_perm (fun p => Iff.rfl : ∀ p, p ∈ fitL r ↔ p ∈ fitL r)
    rw [kont_eq]
    simp only [go_sem, List.map_cons, List.map_nil, ↓reduceIte, Nat.reduceEqDiff, Nat.reduceAdd, Nat.reduceMul, reduceCtorEq, and_true, true_and, Nat.mul_one, Nat.zero_add, Bool.false_eq_true, decide_true, decide_false, not_false_eq_true, kont_eq, fillV_nil, fillV_cons, okFill_nil, okFill_cons, cells_slice, cells_int, cells_bool, cells_str, cells_ptr, cells_agg, stNH_ptr, okN_ptr, wrA1, wrA20, wrA21]
    refine (e.nw (szR r : Int) ((fitL r).map toI) _ HB (hT.keep (K09.trans KAB)) ((O9.sl.keep0 KB).conv (by simp) (toI_flat _)) (by rw [List.length_map]; omega)).mono ?_
    rintro y HC ⟨hy, KC, _⟩
    have KAC := KAB.trans KC
    obtain ⟨qv, rfl, hq⟩ : ∃ qv, y = .tuple #[qv, .int .i64 0] ∧ OrdV HC qv (szR r) (relF r) := by
      rcases hy with ⟨h, _⟩ | ⟨_, h, _⟩ | ⟨_, _, h, _⟩ | ⟨_, _, _, v, h1, h2⟩
      · unfold badN at h; omega
      · exact absurd hok' h
      · rw [hrel'] at h; exact absurd (relF_acy r) h
      · rw [hrel', Int.toNat_natCast] at h2; exact ⟨v, h1, h2⟩
    have K8C := K9.trans KAC
    have tC := K8C.bl t8 (by simp)
    have uC := K8C.bl B8 (by simp)
    have c0 : cell HC ⟨b4, 0, none⟩ = some (.int .i64 (szR r : Int)) := by rw [tC.cell]; rfl
    have c1 : cell HC ⟨b4, 1, none⟩ = some pv := by rw [tC.cell]; rfl
    have d0 : cell HC ⟨b7, 0, none⟩ = some (.int .i64 (szR s : Int)) := by rw [uC.cell]; rfl
    have d1 : cell HC ⟨b7, 1, none⟩ = some pv2 := by rw [uC.cell]; rfl
    have qO : OrdO HC qv (some (szR r, relF r)) := hq
    have oC := OrdO.keep0 (o := some (szR r, relF r)) o8 K8C
    have pC := OrdO.keep0 (o := some (szR s, relF s)) p8 K8C
    have e00 : ((0 : Int) == 0) = true := rfl
    have eqq : eqO (some (szR r, relF r)) (some (szR r, relF r)) = true := by simp [eqO]
    rw [kont_eq]
    by_cases hnn : szR r = szR s
    · have e1 : ((szR r : Int) == (szR s : Int)) = true := by rw [hnn]; simp
      simp only [go_sem, List.map_cons, List.map_nil, ↓reduceIte, Nat.reduceEqDiff, Nat.reduceAdd, Nat.reduceMul, reduceCtorEq, and_true, true_and, Nat.mul_one, Nat.zero_add, Bool.false_eq_true, decide_true, decide_false, not_false_eq_true, kont_eq, fillV_nil, fillV_cons, okFill_nil, okFill_cons, cells_slice, cells_int, cells_bool, cells_str, cells_ptr, cells_agg, stNH_ptr, okN_ptr, wrA1, wrA20, wrA21, c0, c1, d0, d1, e1]
      refine (e.eqP (gridP (szR r) (relF r)) (gridP (szR s) (relF s)) pv pv2 HC (hpv.keep0 (K38.trans K8C)) (hpv2.keep0 (K68.trans K8C)) (by have := gridP_len16 (relF r) hn; omega)).mono ?_
      rintro y HD ⟨rfl, rfl⟩
      rw [decide_eq_true hnn, Bool.true_and] at se1 se2
      rw [kont_eq]
      simp only [go_sem, List.map_cons, List.map_nil, ↓reduceIte, Nat.reduceEqDiff, Nat.reduceAdd, Nat.reduceMul, reduceCtorEq, and_true, true_and, Nat.mul_one, Nat.zero_add, Bool.false_eq_true, decide_true, decide_false, not_false_eq_true, kont_eq, fillV_nil, fillV_cons, okFill_nil, okFill_cons, cells_slice, cells_int, cells_bool, cells_str, cells_ptr, cells_agg, stNH_ptr, okN_ptr, wrA1, wrA20, wrA21, e00]
      refine (e.eq (some (szR r, relF r)) (some (szR r, relF r)) _ qv HD oC qO).mono ?_
      rintro y HE ⟨rfl, rfl⟩
      rw [kont_eq, eqq]
      simp only [go_sem, List.map_cons, List.map_nil, ↓reduceIte, Nat.reduceEqDiff, Nat.reduceAdd, Nat.reduceMul, reduceCtorEq, and_true, true_and, Nat.mul_one, Nat.zero_add, Bool.false_eq_true, decide_true, decide_false, not_false_eq_true, kont_eq, fillV_nil, fillV_cons, okFill_nil, okFill_cons, cells_slice, cells_int, cells_bool, cells_str, cells_ptr, cells_agg, stNH_ptr, okN_ptr, wrA1, wrA20, wrA21]
      refine (e.eq (some (szR r, relF r)) (some (szR s, relF s)) _ _ HE oC pC).mono ?_
      rintro y HF ⟨rfl, rfl⟩
      rw [kont_eq]
      simp only [go_sem, List.map_cons, List.map_nil, ↓reduceIte, Nat.reduceEqDiff, Nat.reduceAdd, Nat.reduceMul, reduceCtorEq, and_true, true_and, Nat.mul_one, Nat.zero_add, Bool.false_eq_true, decide_true, decide_false, not_false_eq_true, kont_eq, fillV_nil, fillV_cons, okFill_nil, okFill_cons, cells_slice, cells_int, cells_bool, cells_str, cells_ptr, cells_agg, stNH_ptr, okN_ptr, wrA1, wrA20, wrA21, se1]
      refine (e.eq (some (szR s, relF s)) (some (szR r, relF r)) _ _ HF pC oC).mono ?_
      rintro y HG ⟨rfl, rfl⟩
      rw [kont_eq]
      simp only [go_sem, List.map_cons, List.map_nil, ↓reduceIte, Nat.reduceEqDiff, Nat.reduceAdd, Nat.reduceMul, reduceCtorEq, and_true, true_and, Nat.mul_one, Nat.zero_add, Bool.false_eq_true, decide_true, decide_false, not_false_eq_true, kont_eq, fillV_nil, fillV_cons, okFill_nil, okFill_cons, cells_slice, cells_int, cells_bool, cells_str, cells_ptr, cells_agg, stNH_ptr, okN_ptr, wrA1, wrA20, wrA21, se2]
      rw [hQ]
      exact ⟨rfl, K09.trans KAC⟩
    · have e1 : ((szR r : Int) == (szR s : Int)) = false := by simp only [beq_eq_false_iff_ne, ne_eq]; omega
      simp only [go_sem, List.map_cons, List.map_nil, ↓reduceIte, Nat.reduceEqDiff, Nat.reduceAdd, Nat.reduceMul, reduceCtorEq, and_true, true_and, Nat.mul_one, Nat.zero_add, Bool.false_eq_true, decide_true, decide_false, not_false_eq_true, kont_eq, fillV_nil, fillV_cons, okFill_nil, okFill_cons, cells_slice, cells_int, cells_bool, cells_str, cells_ptr, cells_agg, stNH_ptr, okN_ptr, wrA1, wrA20, wrA21, c0, c1, d0, d1, e1, e00]
      rw [decide_eq_false hnn, Bool.false_and] at se1 se2
      refine (e.eq (some (szR r, relF r)) (some (szR r, relF r)) _ qv HC oC qO).mono ?_
      rintro y HE ⟨rfl, rfl⟩
      rw [kont_eq, eqq]
      simp only [go_sem, List.map_cons, List.map_nil, ↓reduceIte, Nat.reduceEqDiff, Nat.reduceAdd, Nat.reduceMul, reduceCtorEq, and_true, true_and, Nat.mul_one, Nat.zero_add, Bool.false_eq_true, decide_true, decide_false, not_false_eq_true, kont_eq, fillV_nil, fillV_cons, okFill_nil, okFill_cons, cells_slice, cells_int, cells_bool, cells_str, cells_ptr, cells_agg, stNH_ptr, okN_ptr, wrA1, wrA20, wrA21]
      refine (e.eq (some (szR r, relF r)) (some (szR s, relF s)) _ _ HE oC pC).mono ?_
      rintro y HF ⟨rfl, rfl⟩
      rw [kont_eq]
      simp only [go_sem, List.map_cons, List.map_nil, ↓reduceIte, Nat.reduceEqDiff, Nat.reduceAdd, Nat.reduceMul, reduceCtorEq, and_true, true_and, Nat.mul_one, Nat.zero_add, Bool.false_eq_true, decide_true, decide_false, not_false_eq_true, kont_eq, fillV_nil, fillV_cons, okFill_nil, okFill_cons, cells_slice, cells_int, cells_bool, cells_str, cells_ptr, cells_agg, stNH_ptr, okN_ptr, wrA1, wrA20, wrA21, se1]
      refine (e.eq (some (szR s, relF s)) (some (szR r, relF r)) _ _ HF pC oC).mono ?_
      rintro y HG ⟨rfl, rfl⟩
      rw [kont_eq]
      simp only [go_sem, List.map_cons, List.map_nil, ↓reduceIte, Nat.reduceEqDiff, Nat.reduceAdd, Nat.reduceMul, reduceCtorEq, and_true, true_and, Nat.mul_one, Nat.zero_add, Bool.false_eq_true, decide_true, decide_false, not_false_eq_true, kont_eq, fillV_nil, fillV_cons, okFill_nil, okFill_cons, cells_slice, cells_int, cells_bool, cells_str, cells_ptr, cells_agg, stNH_ptr, okN_ptr, wrA1, wrA20, wrA21, se2]
      rw [hQ]
      exact ⟨rfl, K09.trans KAC⟩
end Go.Mg
