/- order: the laws Sorts, Paths, Reduces, Asks. -/
import Derived.Test.YtamkbeibmhkciaaDoorMgT3
namespace Go.Mg
open Go Go.RowKit
set_option linter.unusedSimpArgs false
set_option linter.unusedVariables false
set_option maxRecDepth 100000
/- arbaclaw06.OrderSorts -/
/- arbaclaw06.OrderPaths -/
/- arbaclaw06.OrderReduces -/
/- arbaclaw06.OrderAsks -/
def c_lasks (ι : Ids) : S :=
  .seq (.reg [.e (.v 3) (.box (ι.t 263) (.v 0)), .p (.v 6) (.mv (.c (.bool false)))]) (.seq (.seq (.reg [.e (.t 9) (.call (ι.f 270) []), .p (.v 10) (.not (.t 9))]) (.ite (.v 10) (.seq (.reg [.p (.v 6)
  (.mv (.c (.bool false)))]) .ret) .skip)) (.seq (.reg [.p (.t 12) (.m (.ldn 4 (.v 3))), .e (.t 13) (.call (ι.f 268) [.t 12]), .p (.t 11) (.mv (.t 13)), .p (.t 14) (.ext (.t 11) 0), .p (.t 15) (.ext (.t
  11) 1), .e (.v 8) (.new (ι.t 246) #[.int .i64 0, .slice .none 0 0]), .p (.v 7) (.mv (.t 14)), .e .no (.stn 2 (.v 8) (.t 15))]) (.seq (.dr (.px (.t 16) .none (.mv (.v 7)) (.px (.t 17) .none (.m (.ldn 2
  (.v 8))) (.wcons (.t 18) .none (.call (ι.f 269) [.t 16, .t 17]) (.px (.t 19) .none (.mv (.t 18)) (.px (.t 20) (.some (.t 19, true)) (.mv (.v 7)) (.px (.t 21) (.some (.t 19, true)) (.mv (.v 1)) (.px
  (.t 22) (.some (.t 19, true)) (.mv (.v 2)) (.px (.t 24) (.some (.t 19, true)) (.m (.ldn 2 (.v 8))) (.px (.t 25) (.some (.t 19, true)) (.mv (.v 2)) (.px (.t 26) (.some (.t 19, true)) (.mv (.v 1))
  (.wcons (.t 23) (.some (.t 19, true)) (.call (ι.f 208) [.t 20, .t 21, .t 22]) (.wcons (.t 27) (.some (.t 19, true)) (.call (ι.f 250) [.t 24, .t 25, .t 26]) (.px (.t 28) (.some (.t 19, true)) (.eqb
  false (.t 23) (.t 27)) (.px (.t 29) .none (.pick (.t 19) (.t 28) (.c (.bool false))) (.px (.t 30) .none (.mv (.t 29)) (.px (.t 31) (.some (.t 30, true)) (.mv (.v 7)) (.px (.t 32) (.some (.t 30, true))
  (.mv (.v 2)) (.px (.t 35) (.some (.t 30, true)) (.m (.ldn 2 (.v 8))) (.px (.t 36) (.some (.t 30, true)) (.mv (.v 2)) (.wcons (.t 33) (.some (.t 30, true)) (.call (ι.f 206) [.t 31, .t 32]) (.wcons (.t
  34) (.some (.t 30, true)) (.call (ι.f 139) [.t 33]) (.wcons (.t 37) (.some (.t 30, true)) (.call (ι.f 251) [.t 35, .t 36]) (.wcons (.t 38) (.some (.t 30, true)) (.call (ι.f 165) [.t 34, .t 37]) (.px
  (.t 39) .none (.pick (.t 30) (.t 38) (.c (.bool false))) (.px (.t 40) .none (.mv (.t 39)) (.px (.t 41) (.some (.t 40, true)) (.mv (.v 7)) (.px (.t 42) (.some (.t 40, true)) (.mv (.v 1)) (.px (.t 45)
  (.some (.t 40, true)) (.m (.ldn 2 (.v 8))) (.px (.t 46) (.some (.t 40, true)) (.mv (.v 1)) (.wcons (.t 43) (.some (.t 40, true)) (.call (ι.f 207) [.t 41, .t 42]) (.wcons (.t 44) (.some (.t 40, true))
  (.call (ι.f 139) [.t 43]) (.wcons (.t 47) (.some (.t 40, true)) (.call (ι.f 252) [.t 45, .t 46]) (.wcons (.t 48) (.some (.t 40, true)) (.call (ι.f 165) [.t 44, .t 47]) (.px (.t 49) .none (.pick (.t
  40) (.t 48) (.c (.bool false))) (.px (.v 6) .none (.mv (.t 49)) .done)) .wnil) .wnil) .wnil) .wnil))))))) .wnil) .wnil) .wnil) .wnil)))))))) .wnil) .wnil)))))))) .wnil)))) .ret)))
def r_lasks : List RV := [.t 6]

structure LawC (P : Program) (ι : Ids) : Prop where
  awk : AwkSpec P ι (ι.f 270)
  mak : LMakeSpec P ι (ι.f 268)
  is : IsSpec P ι (ι.f 269)
  srt : OSrtSpec P (ι.f 209)
  pt : OPathSpec P (ι.f 245)
  rd : ORedSpec P ι (ι.f 239) redO
  cl : ORedSpec P ι (ι.f 240) cloO
  less : OLessSpec P (ι.f 208)
  abv : OAbvSpec P (ι.f 206)
  blw : OBlwSpec P (ι.f 207)
  lst : BListSpec P ι (ι.f 139)
  rsrt : RSrtSpec P (ι.f 259)
  rpt : RPathSpec P (ι.f 262)
  rrd : RMapSpec P (ι.f 256) redR
  rcl : RMapSpec P (ι.f 255) fun _ R => tcB R
  ris : RIsSpec P (ι.f 250)
  rab : RListSpec P (ι.f 251) rabL
  rbe : RListSpec P (ι.f 252) rbeL
  eqI : IEqSpec P (ι.f 165)
theorem ptr_of {H : Hp} {v : Value} {n : Nat} {R : Nat → Nat → Bool} (h : OrdV H v n R) : ∃ b, v = .pointer (some ⟨b, 0, none⟩) := by
  obtain ⟨_, _, _, b, _, _, _, _, _, _, _, e, _⟩ := h; exact ⟨b, e⟩
def Law3Spec (P : Program) (ι : Ids) (k : FuncId) : Prop := ∀ (r : RawN) (v : Value) (a b : Int) (H : Hp), TabOk ι H → RawV H v r → CallsM P k #[v, .int .i64 a, .int .i64 b] H fun x H' => x = .bool true ∧ Keep (fun _ => False) H H'
theorem eqc {P : Program} {k : FuncId} (h : IEqSpec P k) (l : List Nat) (A : Hp) (w w' : Value) (K : Value → Hp → Prop) (hl : l.length ≤ 1000000) (h1 : SlR A w (iN l)) (h2 : SlR A w' (iN l)) (hK : K (.bool true) A) : CallsM P k #[w, w'] A K :=
  (h (nI l) (nI l) w w' A h1 h2 (by simp [nI]; omega)).mono fun r A' h => by
    obtain ⟨rfl, rfl⟩ := h
    rw [decide_eq_true rfl]; exact hK
theorem lasks_ok {P : Program} {ι : Ids} {k : FuncId} (hk : FnIs P k (c_lasks ι) r_lasks 3) (c : LawC P ι) : Law3Spec P ι k := by
  intro r v a b H hT hv
  have hv0 := hv
  obtain ⟨rp, rfl, hp, hl⟩ := hv
  obtain ⟨Q, hQ⟩ : ∃ Q : Value → Hp → Prop, Q = fun x H' => x = .bool true ∧ Keep (fun _ => False) H H' := ⟨_, rfl⟩
  rw [← hQ]
  refine calls_of_vc hk (args := [_, _, _]) (by simp) ?_
  unfold c_lasks r_lasks
  simp only [go_sem, List.map_cons, List.map_nil, ↓reduceIte, Nat.reduceEqDiff, Nat.reduceAdd, Nat.reduceMul, reduceCtorEq, and_true, true_and, Nat.mul_one, Nat.zero_add, Bool.false_eq_true, decide_true, decide_false, not_false_eq_true]
  refine kont_new fun H1 b1 e1 z1 B1 K1 => ?_
  have s1 := K1.size
  have B1' : Bl H1 b1 [.int .u8 (r.N : Int), .int .u8 (r.T : Int), .int .u8 (r.A : Int), rp] := B1
  simp only [go_sem, List.map_cons, List.map_nil, ↓reduceIte, Nat.reduceEqDiff, Nat.reduceAdd, Nat.reduceMul, reduceCtorEq, and_true, true_and, Nat.mul_one, Nat.zero_add, Bool.false_eq_true, decide_true, decide_false, not_false_eq_true, kont_eq]
  refine (c.awk H1 (hT.keep K1)).mono ?_
  rintro x H2 ⟨rfl, K2⟩
  have B2 := K2.bl B1' (by simp)
  have K02 := K1.trans K2
  rw [kont_eq]
  simp only [go_sem, List.map_cons, List.map_nil, ↓reduceIte, Nat.reduceEqDiff, Nat.reduceAdd, Nat.reduceMul, reduceCtorEq, and_true, true_and, Nat.mul_one, Nat.zero_add, Bool.false_eq_true, decide_true, decide_false, not_false_eq_true, kont_eq, B2.ldNO 4 rfl]
  refine (c.mak r _ H2 (hT.keep K02) (hv0.keep0 K02)).mono ?_
  rintro x H3 ⟨ov, tv, rfl, ho, ht, _, _, K3⟩
  have K03 := K02.trans K3
  obtain ⟨ob, rfl⟩ := ptr_of ho
  have ht0 := ht
  obtain ⟨hn, hR, pv, rfl, hpv⟩ := ht
  have hA := ho.2.2.1
  have hsz := szR_lt r
  obtain ⟨n, hne⟩ : ∃ n, n = szR r := ⟨_, rfl⟩
  obtain ⟨R, hRe⟩ : ∃ R, R = relF r := ⟨_, rfl⟩
  rw [← hne, ← hRe] at ho ht0 hpv hR
  rw [← hRe] at hA
  rw [← hne] at hsz hn
  rw [kont_eq]
  simp only [go_sem, List.map_cons, List.map_nil, ↓reduceIte, Nat.reduceEqDiff, Nat.reduceAdd, Nat.reduceMul, reduceCtorEq, and_true, true_and, Nat.mul_one, Nat.zero_add, Bool.false_eq_true, decide_true, decide_false, not_false_eq_true, fillV_nil, fillV_cons, okFill_nil, okFill_cons, cells_slice, cells_int, cells_bool, cells_str, cells_ptr, cells_agg, stNH_ptr, okN_ptr, wrA1, wrA20, wrA21]
  refine kont_new fun H4 b4 e4 z4 B4 K4 => ?_
  have s4 := K4.size
  have hst4 := B4.okNA (o := 0) (n := 2) (by simp)
  have B5 : Bl (stNA H4 ⟨b4, 0, none⟩ [.int .i64 (n : Int), pv]) b4 [.int .i64 (n : Int), pv] := B4.stNA 0 [.int .i64 (n : Int), pv]
  have K5 : Keep (fun q => q = b4) H4 (stNA H4 ⟨b4, 0, none⟩ [.int .i64 (n : Int), pv]) := (Keep.refl _ _).stNA _ (.inl rfl)
  have hsl := hpv.isSl
  have ha4 : all1 #[Value.int .i64 (n : Int), pv] := fun u hu => by
    simp at hu
    rcases hu with rfl | rfl
    · rfl
    · cases u <;> first | rfl | exact hsl.elim
  simp only [go_sem, List.map_cons, List.map_nil, ↓reduceIte, Nat.reduceEqDiff, Nat.reduceAdd, Nat.reduceMul, reduceCtorEq, and_true, true_and, Nat.mul_one, Nat.zero_add, Bool.false_eq_true, decide_true, decide_false, not_false_eq_true, fillV_nil, fillV_cons, okFill_nil, okFill_cons, cells_slice, cells_int, cells_bool, cells_str, cells_ptr, cells_agg, stNH_ptr, okN_ptr, wrA1, wrA20, wrA21, hst4, ← hne]
  refine ⟨ha4, ?_⟩
  rw [kont_eq]
  generalize stNA H4 ⟨b4, 0, none⟩ [.int .i64 (n : Int), pv] = H5 at B5 K5 ⊢
  have K35 : Keep (fun _ => False) H3 H5 := K4.to_old K5 (by omega)
  have K05 := K03.trans K35
  have hT5 := hT.keep K05
  have oo : ∀ {A : Hp}, Keep (fun _ => False) H5 A → OrdO A (.pointer (some ⟨ob, 0, none⟩)) (some (n, R)) := fun K => OrdO.keep0 (o := some (n, R)) ho (K35.trans K)
  have tt : ∀ {A : Hp}, Keep (fun _ => False) H5 A → ROrd A (.agg #[.int .i64 (n : Int), pv]) n R := fun K => ht0.keep0 (K35.trans K)
  simp only [go_sem, List.map_cons, List.map_nil, ↓reduceIte, Nat.reduceEqDiff, Nat.reduceAdd, Nat.reduceMul, reduceCtorEq, and_true, true_and, Nat.mul_one, Nat.zero_add, Bool.false_eq_true, decide_true, decide_false, not_false_eq_true, kont_eq]
  refine vc_drk (fun _ => False) ?_
  simp only [go_sem, List.map_cons, List.map_nil, ↓reduceIte, Nat.reduceEqDiff, Nat.reduceAdd, Nat.reduceMul, reduceCtorEq, and_true, true_and, Nat.mul_one, Nat.zero_add, Bool.false_eq_true, decide_true, decide_false, not_false_eq_true, kont_eq, fillV_nil, fillV_cons, okFill_nil, okFill_cons, cells_slice, cells_int, cells_bool, cells_str, cells_ptr, cells_agg, stNH_ptr, okN_ptr, wrA1, wrA20, wrA21, B5.ldNO 2 rfl]
  refine (c.is n R _ _ H5 hT5 (oo (Keep.refl _ _)) (tt (Keep.refl _ _))).mono ?_
  rintro x H6 ⟨rfl, K6⟩
  have B6 := K6.bl B5 (by simp)
  simp only [go_sem, List.map_cons, List.map_nil, ↓reduceIte, Nat.reduceEqDiff, Nat.reduceAdd, Nat.reduceMul, reduceCtorEq, and_true, true_and, Nat.mul_one, Nat.zero_add, Bool.false_eq_true, decide_true, decide_false, not_false_eq_true, kont_eq, fillV_nil, fillV_cons, okFill_nil, okFill_cons, cells_slice, cells_int, cells_bool, cells_str, cells_ptr, cells_agg, stNH_ptr, okN_ptr, wrA1, wrA20, wrA21, B6.ldNO 2 rfl]
  refine ⟨K6, ?_⟩
  refine (c.less (some (n, R)) _ a b H6 (oo K6)).mono ?_
  rintro x H7 ⟨rfl, K7⟩
  have K57 := K6.trans K7
  simp only [go_sem, List.map_cons, List.map_nil, ↓reduceIte, Nat.reduceEqDiff, Nat.reduceAdd, Nat.reduceMul, reduceCtorEq, and_true, true_and, Nat.mul_one, Nat.zero_add, Bool.false_eq_true, decide_true, decide_false, not_false_eq_true, kont_eq, fillV_nil, fillV_cons, okFill_nil, okFill_cons, cells_slice, cells_int, cells_bool, cells_str, cells_ptr, cells_agg, stNH_ptr, okN_ptr, wrA1, wrA20, wrA21]
  refine ⟨K7, ?_⟩
  refine (c.ris n R _ b a H7 (tt K57)).mono ?_
  rintro x H8 ⟨rfl, K8⟩
  have K58 := K57.trans K8
  have B8 := K58.bl B5 (by simp)
  have e8 : (memI (abvO (some (n, R)) a) b == isRb n R b a) = true := by
    have : memI (abvO (some (n, R)) a) b = isRb n R b a := by
      unfold memI isRb
      simp only [abvO, inO]
      rw [Bool.eq_iff_iff]
      simp only [Bool.and_eq_true, decide_eq_true_eq]
      constructor
      · rintro ⟨⟨h1, h2⟩, ⟨h3, h4⟩, h5⟩
        have := (hR.tc (tcB_iff.1 h5)).1
        exact ⟨⟨by omega, by omega, by omega, by omega⟩, h5⟩
      · rintro ⟨⟨h1, h2, h3, h4⟩, h5⟩
        exact ⟨⟨by omega, by omega⟩, ⟨by omega, by omega⟩, h5⟩
    rw [this]; exact beq_self_eq_true _
  simp only [go_sem, List.map_cons, List.map_nil, ↓reduceIte, Nat.reduceEqDiff, Nat.reduceAdd, Nat.reduceMul, reduceCtorEq, and_true, true_and, Nat.mul_one, Nat.zero_add, Bool.false_eq_true, decide_true, decide_false, not_false_eq_true, kont_eq, fillV_nil, fillV_cons, okFill_nil, okFill_cons, cells_slice, cells_int, cells_bool, cells_str, cells_ptr, cells_agg, stNH_ptr, okN_ptr, wrA1, wrA20, wrA21, e8, B8.ldNO 2 rfl]
  refine ⟨K8, ?_⟩
  refine (c.abv (some (n, R)) _ b H8 (oo K58)).mono ?_
  rintro x H9 ⟨S9, K9, _⟩
  have K59 := K58.trans K9
  simp only [go_sem, List.map_cons, List.map_nil, ↓reduceIte, Nat.reduceEqDiff, Nat.reduceAdd, Nat.reduceMul, reduceCtorEq, and_true, true_and, Nat.mul_one, Nat.zero_add, Bool.false_eq_true, decide_true, decide_false, not_false_eq_true, kont_eq, fillV_nil, fillV_cons, okFill_nil, okFill_cons, cells_slice, cells_int, cells_bool, cells_str, cells_ptr, cells_agg, stNH_ptr, okN_ptr, wrA1, wrA20, wrA21]
  refine ⟨K9, ?_⟩
  refine (c.lst _ x H9 (hT5.keep K59) S9).mono ?_
  rintro la HA ⟨OA, oA, KA⟩
  have K5A := K59.trans KA
  simp only [go_sem, List.map_cons, List.map_nil, ↓reduceIte, Nat.reduceEqDiff, Nat.reduceAdd, Nat.reduceMul, reduceCtorEq, and_true, true_and, Nat.mul_one, Nat.zero_add, Bool.false_eq_true, decide_true, decide_false, not_false_eq_true, kont_eq, fillV_nil, fillV_cons, okFill_nil, okFill_cons, cells_slice, cells_int, cells_bool, cells_str, cells_ptr, cells_agg, stNH_ptr, okN_ptr, wrA1, wrA20, wrA21]
  refine ⟨KA, ?_⟩
  refine (c.rab n R _ b HA (tt K5A)).mono ?_
  rintro lb HB ⟨OB, oB, KB⟩
  have K5B := K5A.trans KB
  simp only [go_sem, List.map_cons, List.map_nil, ↓reduceIte, Nat.reduceEqDiff, Nat.reduceAdd, Nat.reduceMul, reduceCtorEq, and_true, true_and, Nat.mul_one, Nat.zero_add, Bool.false_eq_true, decide_true, decide_false, not_false_eq_true, kont_eq, fillV_nil, fillV_cons, okFill_nil, okFill_cons, cells_slice, cells_int, cells_bool, cells_str, cells_ptr, cells_agg, stNH_ptr, okN_ptr, wrA1, wrA20, wrA21]
  refine ⟨KB, ?_⟩
  rw [memL_nI, abv_list hR hn] at OA
  have hll := rabL_len (n := n) (R := R) b
  refine eqc c.eqI (rabL n R b) HB _ _ _ (by omega) (OA.keep KB (by simp)).sl OB.sl ?_
  have BB := K5B.bl B5 (by simp)
  simp only [go_sem, List.map_cons, List.map_nil, ↓reduceIte, Nat.reduceEqDiff, Nat.reduceAdd, Nat.reduceMul, reduceCtorEq, and_true, true_and, Nat.mul_one, Nat.zero_add, Bool.false_eq_true, decide_true, decide_false, not_false_eq_true, kont_eq, fillV_nil, fillV_cons, okFill_nil, okFill_cons, cells_slice, cells_int, cells_bool, cells_str, cells_ptr, cells_agg, stNH_ptr, okN_ptr, wrA1, wrA20, wrA21, BB.ldNO 2 rfl]
  refine ⟨Keep.refl _ _, ?_⟩
  refine (c.blw (some (n, R)) _ a HB (oo K5B)).mono ?_
  rintro x HC ⟨SC, KC, _⟩
  have K5C := K5B.trans KC
  simp only [go_sem, List.map_cons, List.map_nil, ↓reduceIte, Nat.reduceEqDiff, Nat.reduceAdd, Nat.reduceMul, reduceCtorEq, and_true, true_and, Nat.mul_one, Nat.zero_add, Bool.false_eq_true, decide_true, decide_false, not_false_eq_true, kont_eq, fillV_nil, fillV_cons, okFill_nil, okFill_cons, cells_slice, cells_int, cells_bool, cells_str, cells_ptr, cells_agg, stNH_ptr, okN_ptr, wrA1, wrA20, wrA21]
  refine ⟨KC, ?_⟩
  refine (c.lst _ x HC (hT5.keep K5C) SC).mono ?_
  rintro la2 HD ⟨OD, oD, KD⟩
  have K5D := K5C.trans KD
  simp only [go_sem, List.map_cons, List.map_nil, ↓reduceIte, Nat.reduceEqDiff, Nat.reduceAdd, Nat.reduceMul, reduceCtorEq, and_true, true_and, Nat.mul_one, Nat.zero_add, Bool.false_eq_true, decide_true, decide_false, not_false_eq_true, kont_eq, fillV_nil, fillV_cons, okFill_nil, okFill_cons, cells_slice, cells_int, cells_bool, cells_str, cells_ptr, cells_agg, stNH_ptr, okN_ptr, wrA1, wrA20, wrA21]
  refine ⟨KD, ?_⟩
  refine (c.rbe n R _ a HD (tt K5D)).mono ?_
  rintro lb2 HE ⟨OE, oE, KE⟩
  simp only [go_sem, List.map_cons, List.map_nil, ↓reduceIte, Nat.reduceEqDiff, Nat.reduceAdd, Nat.reduceMul, reduceCtorEq, and_true, true_and, Nat.mul_one, Nat.zero_add, Bool.false_eq_true, decide_true, decide_false, not_false_eq_true, kont_eq, fillV_nil, fillV_cons, okFill_nil, okFill_cons, cells_slice, cells_int, cells_bool, cells_str, cells_ptr, cells_agg, stNH_ptr, okN_ptr, wrA1, wrA20, wrA21]
  refine ⟨KE, ?_⟩
  rw [memL_nI, blw_list hR hn] at OD
  have hll2 := rbeL_len (n := n) (R := R) a
  refine eqc c.eqI (rbeL n R a) HE _ _ _ (by omega) (OD.keep KE (by simp)).sl OE.sl ?_
  simp only [go_sem, List.map_cons, List.map_nil, ↓reduceIte, Nat.reduceEqDiff, Nat.reduceAdd, Nat.reduceMul, reduceCtorEq, and_true, true_and, Nat.mul_one, Nat.zero_add, Bool.false_eq_true, decide_true, decide_false, not_false_eq_true, kont_eq, fillV_nil, fillV_cons, okFill_nil, okFill_cons, cells_slice, cells_int, cells_bool, cells_str, cells_ptr, cells_agg, stNH_ptr, okN_ptr, wrA1, wrA20, wrA21]
  refine ⟨Keep.refl _ _, ?_⟩
  rw [hQ]
  exact ⟨rfl, (K05.trans K5D).trans KE⟩
end Go.Mg
