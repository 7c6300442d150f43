/- order: the laws Sorts, Paths, Reduces, Asks. -/
import Derived.Test.YtamkbeibmhkciaaDoorMgT3
namespace Go.Mg
open Go Go.RowKit
set_option linter.unusedSimpArgs false
set_option linter.unusedVariables false
set_option maxRecDepth 100000
/- arbaclaw06.OrderSorts -/
/- arbaclaw06.OrderPaths -/
/- arbaclaw06.OrderReduces -/
def c_lreds (ι : Ids) : S :=
  .seq (.reg [.e (.v 1) (.box (ι.t 263) (.v 0)), .p (.v 2) (.mv (.c (.bool false)))]) (.seq (.seq (.reg [.e (.t 5) (.call (ι.f 270) []), .p (.v 6) (.not (.t 5))]) (.ite (.v 6) (.seq (.reg [.p (.v 2)
  (.mv (.c (.bool false)))]) .ret) .skip)) (.seq (.reg [.p (.t 8) (.m (.ldn 4 (.v 1))), .e (.t 9) (.call (ι.f 268) [.t 8]), .p (.t 7) (.mv (.t 9)), .p (.t 10) (.ext (.t 7) 0), .p (.t 11) (.ext (.t 7)
  1), .e (.v 4) (.new (ι.t 246) #[.int .i64 0, .slice .none 0 0]), .p (.v 3) (.mv (.t 10)), .e .no (.stn 2 (.v 4) (.t 11))]) (.seq (.dr (.px (.t 12) .none (.mv (.v 3)) (.px (.t 13) .none (.m (.eqn .ptr
  true (.t 12))) (.px (.t 14) .none (.mv (.t 13)) (.px (.t 15) (.some (.t 14, true)) (.mv (.v 3)) (.px (.t 17) (.some (.t 14, true)) (.m (.ldn 2 (.v 4))) (.wcons (.t 16) (.some (.t 14, true)) (.call
  (ι.f 239) [.t 15]) (.wcons (.t 18) (.some (.t 14, true)) (.call (ι.f 256) [.t 17]) (.wcons (.t 19) (.some (.t 14, true)) (.call (ι.f 269) [.t 16, .t 18]) (.px (.t 20) .none (.pick (.t 14) (.t 19) (.c
  (.bool false))) (.px (.t 21) .none (.mv (.t 20)) (.px (.t 22) (.some (.t 21, true)) (.mv (.v 3)) (.px (.t 24) (.some (.t 21, true)) (.m (.ldn 2 (.v 4))) (.wcons (.t 23) (.some (.t 21, true)) (.call
  (ι.f 240) [.t 22]) (.wcons (.t 25) (.some (.t 21, true)) (.call (ι.f 255) [.t 24]) (.wcons (.t 26) (.some (.t 21, true)) (.call (ι.f 269) [.t 23, .t 25]) (.px (.t 27) .none (.pick (.t 21) (.t 26) (.c
  (.bool false))) (.px (.t 28) .none (.mv (.t 27)) (.px (.t 29) (.some (.t 28, true)) (.mv (.v 3)) (.px (.t 30) (.some (.t 28, true)) (.m (.ldn 2 (.v 4))) (.wcons (.t 31) (.some (.t 28, true)) (.call
  (ι.f 269) [.t 29, .t 30]) (.px (.t 32) .none (.pick (.t 28) (.t 31) (.c (.bool false))) (.px (.v 2) .none (.mv (.t 32)) .done)) .wnil))))) .wnil) .wnil) .wnil))))) .wnil) .wnil) .wnil))))))) .ret)))
def r_lreds : List RV := [.t 2]
/- arbaclaw06.OrderAsks -/
structure LawC (P : Program) (ι : Ids) : Prop where
  awk : AwkSpec P ι (ι.f 270)
  mak : LMakeSpec P ι (ι.f 268)
  is : IsSpec P ι (ι.f 269)
  srt : OSrtSpec P (ι.f 209)
  pt : OPathSpec P (ι.f 245)
  rd : ORedSpec P ι (ι.f 239) redO
  cl : ORedSpec P ι (ι.f 240) cloO
  less : OLessSpec P (ι.f 208)
  abv : OAbvSpec P (ι.f 206)
  blw : OBlwSpec P (ι.f 207)
  lst : BListSpec P ι (ι.f 139)
  rsrt : RSrtSpec P (ι.f 259)
  rpt : RPathSpec P (ι.f 262)
  rrd : RMapSpec P (ι.f 256) redR
  rcl : RMapSpec P (ι.f 255) fun _ R => tcB R
  ris : RIsSpec P (ι.f 250)
  rab : RListSpec P (ι.f 251) rabL
  rbe : RListSpec P (ι.f 252) rbeL
  eqI : IEqSpec P (ι.f 165)
theorem ptr_of {H : Hp} {v : Value} {n : Nat} {R : Nat → Nat → Bool} (h : OrdV H v n R) : ∃ b, v = .pointer (some ⟨b, 0, none⟩) := by
  obtain ⟨_, _, _, b, _, _, _, _, _, _, _, e, _⟩ := h; exact ⟨b, e⟩
def Law1Spec (P : Program) (ι : Ids) (k : FuncId) : Prop := ∀ (r : RawN) (v : Value) (H : Hp), TabOk ι H → RawV H v r → CallsM P k #[v] H fun x H' => x = .bool true ∧ Keep (fun _ => False) H H'
theorem eqc {P : Program} {k : FuncId} (h : IEqSpec P k) (l : List Nat) (A : Hp) (w w' : Value) (K : Value → Hp → Prop) (hl : l.length ≤ 1000000) (h1 : SlR A w (iN l)) (h2 : SlR A w' (iN l)) (hK : K (.bool true) A) : CallsM P k #[w, w'] A K :=
  (h (nI l) (nI l) w w' A h1 h2 (by simp [nI]; omega)).mono fun r A' h => by
    obtain ⟨rfl, rfl⟩ := h
    rw [decide_eq_true rfl]; exact hK
theorem lreds_ok {P : Program} {ι : Ids} {k : FuncId} (hk : FnIs P k (c_lreds ι) r_lreds 1) (c : LawC P ι) : Law1Spec P ι k := by
  intro r v H hT hv
  have hv0 := hv
  obtain ⟨rp, rfl, hp, hl⟩ := hv
  obtain ⟨Q, hQ⟩ : ∃ Q : Value → Hp → Prop, Q = fun x H' => x = .bool true ∧ Keep (fun _ => False) H H' := ⟨_, rfl⟩
  rw [← hQ]
  refine calls_of_vc hk (args := [_]) (by simp) ?_
  unfold c_lreds r_lreds
  simp only [go_sem, List.map_cons, List.map_nil, ↓reduceIte, Nat.reduceEqDiff, Nat.reduceAdd, Nat.reduceMul, reduceCtorEq, and_true, true_and, Nat.mul_one, Nat.zero_add, Bool.false_eq_true, decide_true, decide_false, not_false_eq_true]
  refine kont_new fun H1 b1 e1 z1 B1 K1 => ?_
  have s1 := K1.size
  have B1' : Bl H1 b1 [.int .u8 (r.N : Int), .int .u8 (r.T : Int), .int .u8 (r.A : Int), rp] := B1
  simp only [go_sem, List.map_cons, List.map_nil, ↓reduceIte, Nat.reduceEqDiff, Nat.reduceAdd, Nat.reduceMul, reduceCtorEq, and_true, true_and, Nat.mul_one, Nat.zero_add, Bool.false_eq_true, decide_true, decide_false, not_false_eq_true, kont_eq]
  refine (c.awk H1 (hT.keep K1)).mono ?_
  rintro x H2 ⟨rfl, K2⟩
  have B2 := K2.bl B1' (by simp)
  have K02 := K1.trans K2
  rw [kont_eq]
  simp only [go_sem, List.map_cons, List.map_nil, ↓reduceIte, Nat.reduceEqDiff, Nat.reduceAdd, Nat.reduceMul, reduceCtorEq, and_true, true_and, Nat.mul_one, Nat.zero_add, Bool.false_eq_true, decide_true, decide_false, not_false_eq_true, kont_eq, B2.ldNO 4 rfl]
  refine (c.mak r _ H2 (hT.keep K02) (hv0.keep0 K02)).mono ?_
  rintro x H3 ⟨ov, tv, rfl, ho, ht, _, _, K3⟩
  have K03 := K02.trans K3
  obtain ⟨ob, rfl⟩ := ptr_of ho
  have ht0 := ht
  obtain ⟨hn, hR, pv, rfl, hpv⟩ := ht
  have hA := ho.2.2.1
  have hsz := szR_lt r
  obtain ⟨n, hne⟩ : ∃ n, n = szR r := ⟨_, rfl⟩
  obtain ⟨R, hRe⟩ : ∃ R, R = relF r := ⟨_, rfl⟩
  rw [← hne, ← hRe] at ho ht0 hpv hR
  rw [← hRe] at hA
  rw [← hne] at hsz hn
  rw [kont_eq]
  simp only [go_sem, List.map_cons, List.map_nil, ↓reduceIte, Nat.reduceEqDiff, Nat.reduceAdd, Nat.reduceMul, reduceCtorEq, and_true, true_and, Nat.mul_one, Nat.zero_add, Bool.false_eq_true, decide_true, decide_false, not_false_eq_true, fillV_nil, fillV_cons, okFill_nil, okFill_cons, cells_slice, cells_int, cells_bool, cells_str, cells_ptr, cells_agg, stNH_ptr, okN_ptr, wrA1, wrA20, wrA21]
  refine kont_new fun H4 b4 e4 z4 B4 K4 => ?_
  have s4 := K4.size
  have hst4 := B4.okNA (o := 0) (n := 2) (by simp)
  have B5 : Bl (stNA H4 ⟨b4, 0, none⟩ [.int .i64 (n : Int), pv]) b4 [.int .i64 (n : Int), pv] := B4.stNA 0 [.int .i64 (n : Int), pv]
  have K5 : Keep (fun q => q = b4) H4 (stNA H4 ⟨b4, 0, none⟩ [.int .i64 (n : Int), pv]) := (Keep.refl _ _).stNA _ (.inl rfl)
  have hsl := hpv.isSl
  have ha4 : all1 #[Value.int .i64 (n : Int), pv] := fun u hu => by
    simp at hu
    rcases hu with rfl | rfl
    · rfl
    · cases u <;> first | rfl | exact hsl.elim
  simp only [go_sem, List.map_cons, List.map_nil, ↓reduceIte, Nat.reduceEqDiff, Nat.reduceAdd, Nat.reduceMul, reduceCtorEq, and_true, true_and, Nat.mul_one, Nat.zero_add, Bool.false_eq_true, decide_true, decide_false, not_false_eq_true, fillV_nil, fillV_cons, okFill_nil, okFill_cons, cells_slice, cells_int, cells_bool, cells_str, cells_ptr, cells_agg, stNH_ptr, okN_ptr, wrA1, wrA20, wrA21, hst4, ← hne]
  refine ⟨ha4, ?_⟩
  rw [kont_eq]
  generalize stNA H4 ⟨b4, 0, none⟩ [.int .i64 (n : Int), pv] = H5 at B5 K5 ⊢
  have K35 : Keep (fun _ => False) H3 H5 := K4.to_old K5 (by omega)
  have K05 := K03.trans K35
  have hT5 := hT.keep K05
  have oo : ∀ {A : Hp}, Keep (fun _ => False) H5 A → OrdO A (.pointer (some ⟨ob, 0, none⟩)) (some (n, R)) := fun K => OrdO.keep0 (o := some (n, R)) ho (K35.trans K)
  have tt : ∀ {A : Hp}, Keep (fun _ => False) H5 A → ROrd A (.agg #[.int .i64 (n : Int), pv]) n R := fun K => ht0.keep0 (K35.trans K)
  simp only [go_sem, List.map_cons, List.map_nil, ↓reduceIte, Nat.reduceEqDiff, Nat.reduceAdd, Nat.reduceMul, reduceCtorEq, and_true, true_and, Nat.mul_one, Nat.zero_add, Bool.false_eq_true, decide_true, decide_false, not_false_eq_true, kont_eq]
  refine vc_drk (fun _ => False) ?_
  simp only [go_sem, List.map_cons, List.map_nil, ↓reduceIte, Nat.reduceEqDiff, Nat.reduceAdd, Nat.reduceMul, reduceCtorEq, and_true, true_and, Nat.mul_one, Nat.zero_add, Bool.false_eq_true, decide_true, decide_false, not_false_eq_true, kont_eq, fillV_nil, fillV_cons, okFill_nil, okFill_cons, cells_slice, cells_int, cells_bool, cells_str, cells_ptr, cells_agg, stNH_ptr, okN_ptr, wrA1, wrA20, wrA21, B5.ldNO 2 rfl]
  refine (c.rd (some (n, R)) _ H5 hT5 (oo (Keep.refl _ _))).mono ?_
  rintro w H6 ⟨O6, K6⟩
  simp only [go_sem, List.map_cons, List.map_nil, ↓reduceIte, Nat.reduceEqDiff, Nat.reduceAdd, Nat.reduceMul, reduceCtorEq, and_true, true_and, Nat.mul_one, Nat.zero_add, Bool.false_eq_true, decide_true, decide_false, not_false_eq_true, kont_eq, fillV_nil, fillV_cons, okFill_nil, okFill_cons, cells_slice, cells_int, cells_bool, cells_str, cells_ptr, cells_agg, stNH_ptr, okN_ptr, wrA1, wrA20, wrA21]
  refine ⟨K6, ?_⟩
  refine (c.rrd n R _ H6 (tt K6)).mono ?_
  rintro w2 H7 ⟨O7, K7⟩
  simp only [go_sem, List.map_cons, List.map_nil, ↓reduceIte, Nat.reduceEqDiff, Nat.reduceAdd, Nat.reduceMul, reduceCtorEq, and_true, true_and, Nat.mul_one, Nat.zero_add, Bool.false_eq_true, decide_true, decide_false, not_false_eq_true, kont_eq, fillV_nil, fillV_cons, okFill_nil, okFill_cons, cells_slice, cells_int, cells_bool, cells_str, cells_ptr, cells_agg, stNH_ptr, okN_ptr, wrA1, wrA20, wrA21]
  refine ⟨K7, ?_⟩
  have O6 : OrdV H6 w n (redR n R) := O6
  refine (c.is n (redR n R) w w2 H7 (hT5.keep (K6.trans K7)) (O6.keep0 K7) O7).mono ?_
  rintro x H8 ⟨rfl, K8⟩
  have K58 := (K6.trans K7).trans K8
  have B8 := K58.bl B5 (by simp)
  simp only [go_sem, List.map_cons, List.map_nil, ↓reduceIte, Nat.reduceEqDiff, Nat.reduceAdd, Nat.reduceMul, reduceCtorEq, and_true, true_and, Nat.mul_one, Nat.zero_add, Bool.false_eq_true, decide_true, decide_false, not_false_eq_true, kont_eq, fillV_nil, fillV_cons, okFill_nil, okFill_cons, cells_slice, cells_int, cells_bool, cells_str, cells_ptr, cells_agg, stNH_ptr, okN_ptr, wrA1, wrA20, wrA21, B8.ldNO 2 rfl]
  refine ⟨K8, ?_⟩
  refine (c.cl (some (n, R)) _ H8 (hT5.keep K58) (oo K58)).mono ?_
  rintro w3 H9 ⟨O9, K9⟩
  simp only [go_sem, List.map_cons, List.map_nil, ↓reduceIte, Nat.reduceEqDiff, Nat.reduceAdd, Nat.reduceMul, reduceCtorEq, and_true, true_and, Nat.mul_one, Nat.zero_add, Bool.false_eq_true, decide_true, decide_false, not_false_eq_true, kont_eq, fillV_nil, fillV_cons, okFill_nil, okFill_cons, cells_slice, cells_int, cells_bool, cells_str, cells_ptr, cells_agg, stNH_ptr, okN_ptr, wrA1, wrA20, wrA21]
  refine ⟨K9, ?_⟩
  have K59 := K58.trans K9
  refine (c.rcl n R _ H9 (tt K59)).mono ?_
  rintro w4 HA ⟨OA, KA⟩
  simp only [go_sem, List.map_cons, List.map_nil, ↓reduceIte, Nat.reduceEqDiff, Nat.reduceAdd, Nat.reduceMul, reduceCtorEq, and_true, true_and, Nat.mul_one, Nat.zero_add, Bool.false_eq_true, decide_true, decide_false, not_false_eq_true, kont_eq, fillV_nil, fillV_cons, okFill_nil, okFill_cons, cells_slice, cells_int, cells_bool, cells_str, cells_ptr, cells_agg, stNH_ptr, okN_ptr, wrA1, wrA20, wrA21]
  refine ⟨KA, ?_⟩
  have K5A := K59.trans KA
  have O9 : OrdV H9 w3 n (tcB R) := O9
  refine (c.is n (tcB R) w3 w4 HA (hT5.keep K5A) (O9.keep0 KA) OA).mono ?_
  rintro x HB ⟨rfl, KB⟩
  have K5B := K5A.trans KB
  have BB := K5B.bl B5 (by simp)
  simp only [go_sem, List.map_cons, List.map_nil, ↓reduceIte, Nat.reduceEqDiff, Nat.reduceAdd, Nat.reduceMul, reduceCtorEq, and_true, true_and, Nat.mul_one, Nat.zero_add, Bool.false_eq_true, decide_true, decide_false, not_false_eq_true, kont_eq, fillV_nil, fillV_cons, okFill_nil, okFill_cons, cells_slice, cells_int, cells_bool, cells_str, cells_ptr, cells_agg, stNH_ptr, okN_ptr, wrA1, wrA20, wrA21, BB.ldNO 2 rfl]
  refine ⟨KB, ?_⟩
  refine (c.is n R _ _ HB (hT5.keep K5B) (oo K5B) (tt K5B)).mono ?_
  rintro x HC ⟨rfl, KC⟩
  simp only [go_sem, List.map_cons, List.map_nil, ↓reduceIte, Nat.reduceEqDiff, Nat.reduceAdd, Nat.reduceMul, reduceCtorEq, and_true, true_and, Nat.mul_one, Nat.zero_add, Bool.false_eq_true, decide_true, decide_false, not_false_eq_true, kont_eq, fillV_nil, fillV_cons, okFill_nil, okFill_cons, cells_slice, cells_int, cells_bool, cells_str, cells_ptr, cells_agg, stNH_ptr, okN_ptr, wrA1, wrA20, wrA21]
  refine ⟨KC, ?_⟩
  rw [hQ]
  exact ⟨rfl, (K05.trans K5B).trans KC⟩
end Go.Mg
