/- order: the laws Sorts, Paths, Reduces, Asks. -/
import Derived.Test.YtamkbeibmhkciaaDoorMgT3
namespace Go.Mg
open Go Go.RowKit
set_option linter.unusedSimpArgs false
set_option linter.unusedVariables false
set_option maxRecDepth 100000
/- arbaclaw06.OrderSorts -/
/- arbaclaw06.OrderPaths -/
def c_lpaths (ι : Ids) : S :=
  .seq (.reg [.e (.v 3) (.box (ι.t 263) (.v 0)), .p (.v 6) (.mv (.c (.bool false)))]) (.seq (.seq (.reg [.e (.t 12) (.call (ι.f 270) []), .p (.v 13) (.not (.t 12))]) (.ite (.v 13) (.seq (.reg [.p (.v 6)
  (.mv (.c (.bool false)))]) .ret) .skip)) (.seq (.reg [.p (.t 15) (.m (.ldn 4 (.v 3))), .e (.t 16) (.call (ι.f 268) [.t 15]), .p (.t 14) (.mv (.t 16)), .p (.t 17) (.ext (.t 14) 0), .p (.t 18) (.ext (.t
  14) 1), .e (.v 8) (.new (ι.t 246) #[.int .i64 0, .slice .none 0 0]), .p (.v 7) (.mv (.t 17)), .e .no (.stn 2 (.v 8) (.t 18))]) (.seq (.seq (.reg [.p (.t 19) (.mv (.v 7)), .p (.v 20) (.m (.eqn .ptr
  false (.t 19)))]) (.ite (.v 20) (.seq (.reg [.p (.v 6) (.mv (.c (.bool false)))]) .ret) .skip)) (.seq (.reg [.p (.t 22) (.mv (.v 7)), .p (.t 23) (.mv (.v 1)), .p (.t 24) (.mv (.v 2)), .e (.t 25)
  (.call (ι.f 245) [.t 22, .t 23, .t 24]), .p (.t 21) (.mv (.t 25)), .p (.t 26) (.ext (.t 21) 0), .p (.t 27) (.ext (.t 21) 1), .p (.v 9) (.mv (.t 26)), .p (.v 10) (.mv (.t 27))]) (.seq (.reg [.p (.t 28)
  (.m (.ldn 2 (.v 8))), .p (.t 29) (.mv (.v 1)), .p (.t 30) (.mv (.v 2)), .e (.t 31) (.call (ι.f 262) [.t 28, .t 29, .t 30]), .p (.v 11) (.mv (.t 31))]) (.seq (.reg [.p (.t 32) (.mv (.v 9)), .p (.t 33)
  (.mv (.v 11)), .e (.t 34) (.call (ι.f 165) [.t 32, .t 33]), .p (.t 35) (.mv (.t 34)), .gp (.t 36) (.t 35) true (.mv (.v 10)), .gp (.t 37) (.t 35) true (.mv (.v 11)), .gp (.t 38) (.t 35) true (.m
  (.lenl (.t 37))), .gp (.t 39) (.t 35) true (.cm .gtr .i64 (.t 38) (.c (.int .i64 0))), .gp (.t 40) (.t 35) true (.eqb false (.t 36) (.t 39)), .p (.t 41) (.pick (.t 35) (.t 40) (.c (.bool false))), .p
  (.v 6) (.mv (.t 41))]) .ret))))))
def r_lpaths : List RV := [.t 6]
/- arbaclaw06.OrderReduces -/
/- arbaclaw06.OrderAsks -/
structure LawC (P : Program) (ι : Ids) : Prop where
  awk : AwkSpec P ι (ι.f 270)
  mak : LMakeSpec P ι (ι.f 268)
  is : IsSpec P ι (ι.f 269)
  srt : OSrtSpec P (ι.f 209)
  pt : OPathSpec P (ι.f 245)
  rd : ORedSpec P ι (ι.f 239) redO
  cl : ORedSpec P ι (ι.f 240) cloO
  less : OLessSpec P (ι.f 208)
  abv : OAbvSpec P (ι.f 206)
  blw : OBlwSpec P (ι.f 207)
  lst : BListSpec P ι (ι.f 139)
  rsrt : RSrtSpec P (ι.f 259)
  rpt : RPathSpec P (ι.f 262)
  rrd : RMapSpec P (ι.f 256) redR
  rcl : RMapSpec P (ι.f 255) fun _ R => tcB R
  ris : RIsSpec P (ι.f 250)
  rab : RListSpec P (ι.f 251) rabL
  rbe : RListSpec P (ι.f 252) rbeL
  eqI : IEqSpec P (ι.f 165)
theorem ptr_of {H : Hp} {v : Value} {n : Nat} {R : Nat → Nat → Bool} (h : OrdV H v n R) : ∃ b, v = .pointer (some ⟨b, 0, none⟩) := by
  obtain ⟨_, _, _, b, _, _, _, _, _, _, _, e, _⟩ := h; exact ⟨b, e⟩
theorem pthO_cases {n : Nat} {R : Nat → Nat → Bool} (hR : Rng n R) (hA : Acy R) (a b : Int) : pthO (some (n, R)) a b = none ∨ ∃ L : List Nat, pthO (some (n, R)) a b = some L ∧ L ≠ [] ∧ L.length ≤ n := by
  by_cases h : inO (some (n, R)) a = true ∧ inO (some (n, R)) b = true ∧ ∃ d, isD R b.toNat d a.toNat
  · obtain ⟨h1, h2, d, hd⟩ := h
    refine .inr ⟨_, pthO_some h1 h2 hd, gpath_ne _ _ _ _ _, ?_⟩
    rw [gpath_len]
    simp only [inO, Bool.and_eq_true, decide_eq_true_eq] at h1 h2
    have := wlk_lt hR hA (by omega) (by omega) hd.1
    omega
  · refine .inl (pthO_none fun n' R' e hh => ?_)
    cases e; exact h hh
def Law3Spec (P : Program) (ι : Ids) (k : FuncId) : Prop := ∀ (r : RawN) (v : Value) (a b : Int) (H : Hp), TabOk ι H → RawV H v r → CallsM P k #[v, .int .i64 a, .int .i64 b] H fun x H' => x = .bool true ∧ Keep (fun _ => False) H H'
theorem eqc {P : Program} {k : FuncId} (h : IEqSpec P k) (l : List Nat) (A : Hp) (w w' : Value) (K : Value → Hp → Prop) (hl : l.length ≤ 1000000) (h1 : SlR A w (iN l)) (h2 : SlR A w' (iN l)) (hK : K (.bool true) A) : CallsM P k #[w, w'] A K :=
  (h (nI l) (nI l) w w' A h1 h2 (by simp [nI]; omega)).mono fun r A' h => by
    obtain ⟨rfl, rfl⟩ := h
    rw [decide_eq_true rfl]; exact hK
theorem lpaths_ok {P : Program} {ι : Ids} {k : FuncId} (hk : FnIs P k (c_lpaths ι) r_lpaths 3) (c : LawC P ι) : Law3Spec P ι k := by
  intro r v a b H hT hv
  have hv0 := hv
  obtain ⟨rp, rfl, hp, hl⟩ := hv
  obtain ⟨Q, hQ⟩ : ∃ Q : Value → Hp → Prop, Q = fun x H' => x = .bool true ∧ Keep (fun _ => False) H H' := ⟨_, rfl⟩
  rw [← hQ]
  refine calls_of_vc hk (args := [_, _, _]) (by simp) ?_
  unfold c_lpaths r_lpaths
  simp only [go_sem, List.map_cons, List.map_nil, ↓reduceIte, Nat.reduceEqDiff, Nat.reduceAdd, Nat.reduceMul, reduceCtorEq, and_true, true_and, Nat.mul_one, Nat.zero_add, Bool.false_eq_true, decide_true, decide_false, not_false_eq_true]
  refine kont_new fun H1 b1 e1 z1 B1 K1 => ?_
  have s1 := K1.size
  have B1' : Bl H1 b1 [.int .u8 (r.N : Int), .int .u8 (r.T : Int), .int .u8 (r.A : Int), rp] := B1
  simp only [go_sem, List.map_cons, List.map_nil, ↓reduceIte, Nat.reduceEqDiff, Nat.reduceAdd, Nat.reduceMul, reduceCtorEq, and_true, true_and, Nat.mul_one, Nat.zero_add, Bool.false_eq_true, decide_true, decide_false, not_false_eq_true, kont_eq]
  refine (c.awk H1 (hT.keep K1)).mono ?_
  rintro x H2 ⟨rfl, K2⟩
  have B2 := K2.bl B1' (by simp)
  have K02 := K1.trans K2
  rw [kont_eq]
  simp only [go_sem, List.map_cons, List.map_nil, ↓reduceIte, Nat.reduceEqDiff, Nat.reduceAdd, Nat.reduceMul, reduceCtorEq, and_true, true_and, Nat.mul_one, Nat.zero_add, Bool.false_eq_true, decide_true, decide_false, not_false_eq_true, kont_eq, B2.ldNO 4 rfl]
  refine (c.mak r _ H2 (hT.keep K02) (hv0.keep0 K02)).mono ?_
  rintro x H3 ⟨ov, tv, rfl, ho, ht, _, _, K3⟩
  have K03 := K02.trans K3
  obtain ⟨ob, rfl⟩ := ptr_of ho
  have ht0 := ht
  obtain ⟨hn, hR, pv, rfl, hpv⟩ := ht
  have hA := ho.2.2.1
  have hsz := szR_lt r
  obtain ⟨n, hne⟩ : ∃ n, n = szR r := ⟨_, rfl⟩
  obtain ⟨R, hRe⟩ : ∃ R, R = relF r := ⟨_, rfl⟩
  rw [← hne, ← hRe] at ho ht0 hpv hR
  rw [← hRe] at hA
  rw [← hne] at hsz hn
  rw [kont_eq]
  simp only [go_sem, List.map_cons, List.map_nil, ↓reduceIte, Nat.reduceEqDiff, Nat.reduceAdd, Nat.reduceMul, reduceCtorEq, and_true, true_and, Nat.mul_one, Nat.zero_add, Bool.false_eq_true, decide_true, decide_false, not_false_eq_true, fillV_nil, fillV_cons, okFill_nil, okFill_cons, cells_slice, cells_int, cells_bool, cells_str, cells_ptr, cells_agg, stNH_ptr, okN_ptr, wrA1, wrA20, wrA21]
  refine kont_new fun H4 b4 e4 z4 B4 K4 => ?_
  have s4 := K4.size
  have hst4 := B4.okNA (o := 0) (n := 2) (by simp)
  have B5 : Bl (stNA H4 ⟨b4, 0, none⟩ [.int .i64 (n : Int), pv]) b4 [.int .i64 (n : Int), pv] := B4.stNA 0 [.int .i64 (n : Int), pv]
  have K5 : Keep (fun q => q = b4) H4 (stNA H4 ⟨b4, 0, none⟩ [.int .i64 (n : Int), pv]) := (Keep.refl _ _).stNA _ (.inl rfl)
  have hsl := hpv.isSl
  have ha4 : all1 #[Value.int .i64 (n : Int), pv] := fun u hu => by
    simp at hu
    rcases hu with rfl | rfl
    · rfl
    · cases u <;> first | rfl | exact hsl.elim
  simp only [go_sem, List.map_cons, List.map_nil, ↓reduceIte, Nat.reduceEqDiff, Nat.reduceAdd, Nat.reduceMul, reduceCtorEq, and_true, true_and, Nat.mul_one, Nat.zero_add, Bool.false_eq_true, decide_true, decide_false, not_false_eq_true, fillV_nil, fillV_cons, okFill_nil, okFill_cons, cells_slice, cells_int, cells_bool, cells_str, cells_ptr, cells_agg, stNH_ptr, okN_ptr, wrA1, wrA20, wrA21, hst4, ← hne]
  refine ⟨ha4, ?_⟩
  rw [kont_eq]
  generalize stNA H4 ⟨b4, 0, none⟩ [.int .i64 (n : Int), pv] = H5 at B5 K5 ⊢
  have K35 : Keep (fun _ => False) H3 H5 := K4.to_old K5 (by omega)
  have K05 := K03.trans K35
  have hT5 := hT.keep K05
  have oo : ∀ {A : Hp}, Keep (fun _ => False) H5 A → OrdO A (.pointer (some ⟨ob, 0, none⟩)) (some (n, R)) := fun K => OrdO.keep0 (o := some (n, R)) ho (K35.trans K)
  have tt : ∀ {A : Hp}, Keep (fun _ => False) H5 A → ROrd A (.agg #[.int .i64 (n : Int), pv]) n R := fun K => ht0.keep0 (K35.trans K)
  simp only [go_sem, List.map_cons, List.map_nil, ↓reduceIte, Nat.reduceEqDiff, Nat.reduceAdd, Nat.reduceMul, reduceCtorEq, and_true, true_and, Nat.mul_one, Nat.zero_add, Bool.false_eq_true, decide_true, decide_false, not_false_eq_true, kont_eq]
  refine (c.pt (some (n, R)) _ a b H5 (oo (Keep.refl _ _))).mono ?_
  rintro x H6 ⟨w, rfl, O6, K6⟩
  rw [kont_eq]
  have B6 := K6.bl B5 (by simp)
  simp only [go_sem, List.map_cons, List.map_nil, ↓reduceIte, Nat.reduceEqDiff, Nat.reduceAdd, Nat.reduceMul, reduceCtorEq, and_true, true_and, Nat.mul_one, Nat.zero_add, Bool.false_eq_true, decide_true, decide_false, not_false_eq_true, kont_eq, fillV_nil, fillV_cons, okFill_nil, okFill_cons, cells_slice, cells_int, cells_bool, cells_str, cells_ptr, cells_agg, stNH_ptr, okN_ptr, wrA1, wrA20, wrA21, B6.ldNO 2 rfl]
  refine (c.rpt n R _ a b H6 (tt K6) hA (by omega)).mono ?_
  rintro w2 H7 ⟨O7, K7⟩
  rw [kont_eq]
  simp only [go_sem, List.map_cons, List.map_nil, ↓reduceIte, Nat.reduceEqDiff, Nat.reduceAdd, Nat.reduceMul, reduceCtorEq, and_true, true_and, Nat.mul_one, Nat.zero_add, Bool.false_eq_true, decide_true, decide_false, not_false_eq_true, kont_eq, fillV_nil, fillV_cons, okFill_nil, okFill_cons, cells_slice, cells_int, cells_bool, cells_str, cells_ptr, cells_agg, stNH_ptr, okN_ptr, wrA1, wrA20, wrA21]
  rcases pthO_cases hR hA a b with hp0 | ⟨L, hp0, hLne, hLn⟩
  · rw [hp0] at O6 O7 ⊢
    refine eqc c.eqI [] H7 _ _ _ (by simp) (O6.keep K7 (by simp)).sl O7 ?_
    have hl0 : lenV w2 = 0 := by have := O7.len; rw [this]; rfl
    rw [kont_eq]
    simp only [go_sem, List.map_cons, List.map_nil, ↓reduceIte, Nat.reduceEqDiff, Nat.reduceAdd, Nat.reduceMul, reduceCtorEq, and_true, true_and, Nat.mul_one, Nat.zero_add, Bool.false_eq_true, decide_true, decide_false, not_false_eq_true, kont_eq, fillV_nil, fillV_cons, okFill_nil, okFill_cons, cells_slice, cells_int, cells_bool, cells_str, cells_ptr, cells_agg, stNH_ptr, okN_ptr, wrA1, wrA20, wrA21, O7.isSl, O7.lenS, O7.len, iN_len, Option.isSome, Option.getD, hl0]
    rw [hQ]
    exact ⟨rfl, (K05.trans K6).trans K7⟩
  · rw [hp0] at O6 O7 ⊢
    have O7 : SlR H7 w2 (iN L) := O7
    refine eqc c.eqI L H7 _ _ _ (by omega) (O6.keep K7 (by simp)).sl O7 ?_
    have hpos : 0 < L.length := List.length_pos_iff.2 hLne
    have e9 : decide ((L.length : Int) > 0) = true := decide_eq_true (by omega)
    have e9' : decide ((0 : Int) < (L.length : Int)) = true := decide_eq_true (by omega)
    rw [kont_eq]
    simp only [go_sem, List.map_cons, List.map_nil, ↓reduceIte, Nat.reduceEqDiff, Nat.reduceAdd, Nat.reduceMul, reduceCtorEq, and_true, true_and, Nat.mul_one, Nat.zero_add, Bool.false_eq_true, decide_true, decide_false, not_false_eq_true, kont_eq, fillV_nil, fillV_cons, okFill_nil, okFill_cons, cells_slice, cells_int, cells_bool, cells_str, cells_ptr, cells_agg, stNH_ptr, okN_ptr, wrA1, wrA20, wrA21, O7.isSl, O7.lenS, O7.len, iN_len, Option.isSome, e9, e9']
    rw [hQ]
    exact ⟨rfl, (K05.trans K6).trans K7⟩
end Go.Mg
