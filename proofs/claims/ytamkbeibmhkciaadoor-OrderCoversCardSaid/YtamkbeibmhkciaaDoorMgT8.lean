/- order: the law Covers. -/
import Derived.Test.YtamkbeibmhkciaaDoorMgT7
namespace Go.Mg
open Go Go.RowKit
set_option linter.unusedSimpArgs false
set_option linter.unusedVariables false
set_option maxRecDepth 100000
/- arbaclaw06.OrderCovers -/
def c_lcovs (ι : Ids) : S :=
  .seq (.reg [.e (.v 1) (.box (ι.t 263) (.v 0)), .p (.v 2) (.mv (.c (.bool false)))]) (.seq (.seq (.reg [.e (.t 13) (.call (ι.f 270) []), .p (.v 14) (.not (.t 13))]) (.ite (.v 14) (.seq (.reg [.p (.v 2)
  (.mv (.c (.bool false)))]) .ret) .skip)) (.seq (.reg [.p (.t 16) (.m (.ldn 4 (.v 1))), .e (.t 17) (.call (ι.f 268) [.t 16]), .p (.t 15) (.mv (.t 17)), .p (.t 18) (.ext (.t 15) 0), .p (.t 19) (.ext (.t
  15) 1), .e (.t 4) (.new (ι.t 246) #[.int .i64 0, .slice .none 0 0]), .p (.v 3) (.mv (.t 18)), .e .no (.stn 2 (.t 4) (.t 19))]) (.seq (.seq (.reg [.p (.t 20) (.mv (.v 3)), .p (.v 21) (.m (.eqn .ptr
  false (.t 20)))]) (.ite (.v 21) (.seq (.reg [.p (.v 2) (.mv (.c (.bool false)))]) .ret) .skip)) (.seq (.reg [.p (.t 22) (.mv (.v 3)), .e (.t 23) (.call (ι.f 239) [.t 22]), .p (.t 24) (.mv (.v 3)), .e
  (.t 25) (.call (ι.f 240) [.t 24]), .p (.v 5) (.mv (.t 23)), .p (.v 6) (.mv (.t 25))]) (.seq (.seq (.reg [.p (.t 26) (.mv (.v 6)), .e (.t 27) (.call (ι.f 240) [.t 26]), .p (.t 28) (.mv (.v 6)), .e (.t
  29) (.call (ι.f 232) [.t 27, .t 28]), .p (.t 30) (.not (.t 29)), .p (.t 31) (.mv (.t 30)), .gp (.t 32) (.t 31) false (.mv (.v 6)), .ge (.t 33) (.t 31) false (.call (ι.f 239) [.t 32]), .gp (.t 34) (.t
  31) false (.mv (.v 5)), .ge (.t 35) (.t 31) false (.call (ι.f 232) [.t 33, .t 34]), .gp (.t 36) (.t 31) false (.not (.t 35)), .p (.t 37) (.pick (.t 31) (.c (.bool true)) (.t 36)), .p (.t 38) (.mv (.t
  37)), .gp (.t 39) (.t 38) false (.mv (.v 5)), .ge (.t 40) (.t 38) false (.call (ι.f 239) [.t 39]), .gp (.t 41) (.t 38) false (.mv (.v 5)), .ge (.t 42) (.t 38) false (.call (ι.f 232) [.t 40, .t 41]),
  .gp (.t 43) (.t 38) false (.not (.t 42)), .p (.v 44) (.pick (.t 38) (.c (.bool true)) (.t 43))]) (.ite (.v 44) (.seq (.reg [.p (.v 2) (.mv (.c (.bool false)))]) .ret) .skip)) (.seq (.seq (.reg [.p (.t
  45) (.mv (.v 5)), .e (.v 46) (.call (ι.f 205) [.t 45]), .p (.v 47) (.m (.lenl (.v 46))), .p (.v 48) (.mv (.c (.int .i64 0)))]) (.blk 0 (.loop (.seq (.reg [.p (.v 49) (.cm .lss .i64 (.v 48) (.v 47))])
  (.seq (.ite (.v 49) .skip (.exit 0)) (.seq (.blk 1 (.seq (.reg [.p (.t 50) (.is 2 (.v 46) (.v 48)), .p (.t 51) (.m (.ldn 2 (.t 50))), .e (.v 8) (.new (ι.t 194) #[.int .i64 0, .int .i64 0]), .e .no
  (.stn 2 (.v 8) (.t 51))]) (.seq (.reg [.p (.t 53) (.mv (.v 5)), .p (.t 54) (.ia 2 1 (.v 8) (.c (.int .i64 0))), .p (.t 55) (.ld (.t 54)), .p (.t 56) (.ia 2 1 (.v 8) (.c (.int .i64 1))), .p (.t 57)
  (.ld (.t 56)), .e (.t 58) (.call (ι.f 231) [.t 53, .t 55, .t 57]), .p (.t 52) (.mv (.t 58)), .p (.t 59) (.ext (.t 52) 0), .p (.t 60) (.ext (.t 52) 1), .p (.v 9) (.mv (.t 59)), .p (.v 10) (.mv (.t
  60))]) (.seq (.reg [.p (.t 61) (.mv (.v 10)), .p (.t 62) (.cm .neq .i64 (.t 61) (.c (.int .i64 0))), .p (.t 63) (.mv (.t 62)), .gp (.t 64) (.t 63) false (.mv (.v 9)), .gp (.t 65) (.t 63) false (.ia 2
  1 (.v 8) (.c (.int .i64 1))), .gp (.t 66) (.t 63) false (.ld (.t 65)), .gp (.t 67) (.t 63) false (.ia 2 1 (.v 8) (.c (.int .i64 0))), .gp (.t 68) (.t 63) false (.ld (.t 67)), .ge (.t 69) (.t 63) false
  (.call (ι.f 208) [.t 64, .t 66, .t 68]), .p (.t 70) (.pick (.t 63) (.c (.bool true)) (.t 69)), .p (.t 71) (.mv (.t 70)), .gp (.t 72) (.t 71) false (.mv (.v 3)), .gp (.t 73) (.t 71) false (.ia 2 1 (.v
  8) (.c (.int .i64 1))), .gp (.t 74) (.t 71) false (.ld (.t 73)), .gp (.t 75) (.t 71) false (.ia 2 1 (.v 8) (.c (.int .i64 0))), .gp (.t 76) (.t 71) false (.ld (.t 75)), .ge (.t 77) (.t 71) false
  (.call (ι.f 208) [.t 72, .t 74, .t 76]), .gp (.t 78) (.t 71) false (.not (.t 77)), .p (.v 79) (.pick (.t 71) (.c (.bool true)) (.t 78))]) (.ite (.v 79) (.seq (.reg [.p (.v 2) (.mv (.c (.bool
  false)))]) .ret) .skip))))) (.reg [.p (.t 80) (.ar .add .i64 (.v 48) (.c (.int .i64 1))), .p (.v 48) (.mv (.t 80))]))))))) (.seq (.seq (.reg [.p (.t 81) (.mv (.v 6)), .e (.v 82) (.call (ι.f 205) [.t
  81]), .p (.v 83) (.m (.lenl (.v 82))), .p (.v 84) (.mv (.c (.int .i64 0)))]) (.blk 2 (.loop (.seq (.reg [.p (.v 85) (.cm .lss .i64 (.v 84) (.v 83))]) (.seq (.ite (.v 85) .skip (.exit 2)) (.seq (.blk 3
  (.seq (.reg [.p (.t 86) (.is 2 (.v 82) (.v 84)), .p (.t 87) (.m (.ldn 2 (.t 86))), .e (.v 12) (.new (ι.t 194) #[.int .i64 0, .int .i64 0]), .e .no (.stn 2 (.v 12) (.t 87))]) (.seq (.reg [.p (.t 88)
  (.mv (.v 3)), .p (.t 89) (.ia 2 1 (.v 12) (.c (.int .i64 1))), .p (.t 90) (.ld (.t 89)), .p (.t 91) (.ia 2 1 (.v 12) (.c (.int .i64 0))), .p (.t 92) (.ld (.t 91)), .e (.t 93) (.call (ι.f 208) [.t 88,
  .t 90, .t 92]), .p (.t 94) (.not (.t 93)), .p (.t 95) (.mv (.t 94)), .gp (.t 96) (.t 95) false (.mv (.v 6)), .gp (.t 97) (.t 95) false (.ia 2 1 (.v 12) (.c (.int .i64 0))), .gp (.t 98) (.t 95) false
  (.ld (.t 97)), .gp (.t 99) (.t 95) false (.ia 2 1 (.v 12) (.c (.int .i64 1))), .gp (.t 100) (.t 95) false (.ld (.t 99)), .ge (.t 101) (.t 95) false (.call (ι.f 208) [.t 96, .t 98, .t 100]), .p (.v
  102) (.pick (.t 95) (.c (.bool true)) (.t 101))]) (.ite (.v 102) (.seq (.reg [.p (.v 2) (.mv (.c (.bool false)))]) .ret) .skip)))) (.reg [.p (.t 103) (.ar .add .i64 (.v 84) (.c (.int .i64 1))), .p (.v
  84) (.mv (.t 103))]))))))) (.seq (.reg [.p (.t 104) (.mv (.v 6)), .e (.t 105) (.call (ι.f 205) [.t 104]), .p (.t 106) (.m (.lenl (.t 105))), .p (.t 107) (.mv (.v 3)), .e (.t 108) (.call (ι.f 203) [.t
  107]), .p (.t 109) (.mv (.v 3)), .e (.t 110) (.call (ι.f 203) [.t 109]), .p (.t 111) (.ar .sub .i64 (.t 110) (.c (.int .i64 1))), .p (.t 112) (.ar .mul .i64 (.t 108) (.t 111)), .p (.t 113) (.dv .quo
  .i64 (.t 112) (.c (.int .i64 2))), .p (.t 114) (.cm .leq .i64 (.t 106) (.t 113)), .p (.v 2) (.mv (.t 114))]) .ret))))))))
def r_lcovs : List RV := [.t 2]

/-! ### a strict order has at most half of the pairs -/
def sm : Nat → (Nat → Nat) → Nat
  | 0, _ => 0
  | n + 1, f => sm n f + f n
theorem sm_add (n : Nat) (f g : Nat → Nat) : sm n (fun i => f i + g i) = sm n f + sm n g := by
  induction n with
  | zero => rfl
  | succ n ih => simp only [sm]; omega
theorem sm_le {n c : Nat} {f : Nat → Nat} (h : ∀ i < n, f i ≤ c) : sm n f ≤ n * c := by
  induction n with
  | zero => simp [sm]
  | succ n ih =>
    have h1 := ih fun i hi => h i (by omega)
    have h2 := h n (by omega)
    have h3 : (n + 1) * c = n * c + c := Nat.succ_mul n c
    simp only [sm]; omega
theorem sm_zero (n : Nat) : sm n (fun _ => 0) = 0 := by
  induction n with
  | zero => rfl
  | succ n ih => simp only [sm, ih]
theorem sm_swap (m : Nat) (R : Nat → Nat → Bool) : ∀ n, sm n (fun x => cn m (R x)) = sm m fun y => cn n fun x => R x y
  | 0 => by simp only [sm, cn]; rw [sm_zero]
  | n + 1 => by
    have e : (fun y => cn (n + 1) fun x => R x y) = fun y => (cn n fun x => R x y) + (if R n y = true then 1 else 0) := rfl
    rw [e, sm_add, ← sm_swap m R n]
    simp only [sm]
    congr 1
    have : ∀ m, cn m (R n) = sm m fun y => if R n y = true then 1 else 0 := fun m => by
      induction m with
      | zero => rfl
      | succ m ih => rw [cn_succ, ih]; rfl
    exact this m
theorem gridP_sm (n : Nat) (R : Nat → Nat → Bool) : (gridP n R).length = sm n fun x => cn n (R x) := by
  have : ∀ m, ((List.range m).flatMap (rowP n R)).length = sm m fun x => cn n (R x) := fun m => by
    induction m with
    | zero => rfl
    | succ m ih =>
      rw [List.range_succ, List.flatMap_append, List.length_append, ih]
      have : (rowP n R m).length = cn n (R m) := by
        unfold rowP; rw [List.length_map, filter_lt_cn]
      simp [sm, this]
  exact this n
theorem half {n : Nat} {R : Nat → Nat → Bool} (hA : Acy R) : 2 * (gridP n (tcB R)).length + n ≤ n * n := by
  rw [gridP_sm]
  have h1 : sm n (fun x => cn n (tcB R x)) = sm n fun x => cn n fun y => tcB R y x := sm_swap n (tcB R) n
  have h2 : sm n (fun x => cn n (tcB R x)) + sm n (fun x => cn n fun y => tcB R y x) + sm n (fun _ => 1) ≤ n * n := by
    rw [← sm_add, ← sm_add]
    refine sm_le fun x hx => ?_
    have hor := cn_or n (tcB R x) fun y => tcB R y x
    have hq : cn n (fun y => tcB R y x && !tcB R x y) = cn n fun y => tcB R y x := cn_congr fun y _ => by
      cases h : tcB R y x with
      | false => rfl
      | true =>
        cases h' : tcB R x y with
        | false => rfl
        | true => exact absurd ((tcB_iff.1 h').trans (tcB_iff.1 h)) (hA x)
    have hnot := cn_not n fun y => tcB R x y || tcB R y x
    have hpos : 1 ≤ cn n fun y => !(tcB R x y || tcB R y x) := by
      have h3 := cn_one n x hx
      have h4 : cn n (fun i => decide (i = x)) ≤ cn n fun y => !(tcB R x y || tcB R y x) := cn_mono fun i hi h => by
        have : i = x := of_decide_eq_true h
        subst this
        have : tcB R i i = false := by
          cases h' : tcB R i i with
          | false => rfl
          | true => exact absurd (tcB_iff.1 h') (hA i)
        rw [this]; rfl
      omega
    omega
  have h5 : sm n (fun _ => 1) = n := by
    have : ∀ m, sm m (fun _ => 1) = m := fun m => by
      induction m with
      | zero => rfl
      | succ m ih => simp only [sm, ih]
    exact this n
  omega
structure CovC (P : Program) (ι : Ids) : Prop where
  eq : OEqSpec P (ι.f 232)
  prs : OPairsSpec P (ι.f 205)
  wo : OWoutSpec P ι (ι.f 231)
  len : OLenSpec P (ι.f 203)
theorem memI_abv {n : Nat} {R : Nat → Nat → Bool} (hR : Rng n R) (hn : n ≤ 256) {x y : Nat} (hy : y < n) : memI (abvO (some (n, R)) (y : Int)) (x : Int) = tcB R x y := by
  unfold memI
  simp only [abvO, inO, Int.toNat_natCast]
  cases h : tcB R x y with
  | false => simp
  | true =>
    have := (hR.tc (tcB_iff.1 h)).1
    simp; omega
theorem lcovs_ok {P : Program} {ι : Ids} {k : FuncId} (hk : FnIs P k (c_lcovs ι) r_lcovs 1) (c : LawC P ι) (e : CovC P ι) : Law1Spec P ι k := by
  intro r v H hT hv
  have hv0 := hv
  obtain ⟨rp, rfl, hp, hl⟩ := hv
  obtain ⟨Q, hQ⟩ : ∃ Q : Value → Hp → Prop, Q = fun x H' => x = .bool true ∧ Keep (fun _ => False) H H' := ⟨_, rfl⟩
  rw [← hQ]
  refine calls_of_vc hk (args := [_]) (by simp) ?_
  unfold c_lcovs r_lcovs
  simp only [go_sem, List.map_cons, List.map_nil, ↓reduceIte, Nat.reduceEqDiff, Nat.reduceAdd, Nat.reduceMul, reduceCtorEq, and_true, true_and, Nat.mul_one, Nat.zero_add, Bool.false_eq_true, decide_true, decide_false, not_false_eq_true]
  refine kont_new fun H1 b1 e1 z1 B1 K1 => ?_
  have s1 := K1.size
  have B1' : Bl H1 b1 [.int .u8 (r.N : Int), .int .u8 (r.T : Int), .int .u8 (r.A : Int), rp] := B1
  simp only [go_sem, List.map_cons, List.map_nil, ↓reduceIte, Nat.reduceEqDiff, Nat.reduceAdd, Nat.reduceMul, reduceCtorEq, and_true, true_and, Nat.mul_one, Nat.zero_add, Bool.false_eq_true, decide_true, decide_false, not_false_eq_true, kont_eq]
  refine (c.awk H1 (hT.keep K1)).mono ?_
  rintro x H2 ⟨rfl, K2⟩
  have B2 := K2.bl B1' (by simp)
  have K02 := K1.trans K2
  rw [kont_eq]
  simp only [go_sem, List.map_cons, List.map_nil, ↓reduceIte, Nat.reduceEqDiff, Nat.reduceAdd, Nat.reduceMul, reduceCtorEq, and_true, true_and, Nat.mul_one, Nat.zero_add, Bool.false_eq_true, decide_true, decide_false, not_false_eq_true, kont_eq, B2.ldNO 4 rfl]
  refine (c.mak r _ H2 (hT.keep K02) (hv0.keep0 K02)).mono ?_
  rintro x H3 ⟨ov, tv, rfl, ho, ht, _, _, K3⟩
  have K03 := K02.trans K3
  obtain ⟨ob, rfl⟩ := ptr_of ho
  have ht0 := ht
  obtain ⟨hn, hR, pv, rfl, hpv⟩ := ht
  have hA := ho.2.2.1
  have hsz := szR_lt r
  obtain ⟨n, hne⟩ : ∃ n, n = szR r := ⟨_, rfl⟩
  obtain ⟨R, hRe⟩ : ∃ R, R = relF r := ⟨_, rfl⟩
  rw [← hne, ← hRe] at ho ht0 hpv hR
  rw [← hRe] at hA
  rw [← hne] at hsz hn
  rw [kont_eq]
  simp only [go_sem, List.map_cons, List.map_nil, ↓reduceIte, Nat.reduceEqDiff, Nat.reduceAdd, Nat.reduceMul, reduceCtorEq, and_true, true_and, Nat.mul_one, Nat.zero_add, Bool.false_eq_true, decide_true, decide_false, not_false_eq_true, fillV_nil, fillV_cons, okFill_nil, okFill_cons, cells_slice, cells_int, cells_bool, cells_str, cells_ptr, cells_agg, stNH_ptr, okN_ptr, wrA1, wrA20, wrA21]
  refine kont_new fun H4 b4 e4 z4 B4 K4 => ?_
  have s4 := K4.size
  have hst4 := B4.okNA (o := 0) (n := 2) (by simp)
  have B5 : Bl (stNA H4 ⟨b4, 0, none⟩ [.int .i64 (n : Int), pv]) b4 [.int .i64 (n : Int), pv] := B4.stNA 0 [.int .i64 (n : Int), pv]
  have K5 : Keep (fun q => q = b4) H4 (stNA H4 ⟨b4, 0, none⟩ [.int .i64 (n : Int), pv]) := (Keep.refl _ _).stNA _ (.inl rfl)
  have hsl := hpv.isSl
  have ha4 : all1 #[Value.int .i64 (n : Int), pv] := fun u hu => by
    simp at hu
    rcases hu with rfl | rfl
    · rfl
    · cases u <;> first | rfl | exact hsl.elim
  simp only [go_sem, List.map_cons, List.map_nil, ↓reduceIte, Nat.reduceEqDiff, Nat.reduceAdd, Nat.reduceMul, reduceCtorEq, and_true, true_and, Nat.mul_one, Nat.zero_add, Bool.false_eq_true, decide_true, decide_false, not_false_eq_true, fillV_nil, fillV_cons, okFill_nil, okFill_cons, cells_slice, cells_int, cells_bool, cells_str, cells_ptr, cells_agg, stNH_ptr, okN_ptr, wrA1, wrA20, wrA21, hst4, ← hne]
  refine ⟨ha4, ?_⟩
  rw [kont_eq]
  generalize stNA H4 ⟨b4, 0, none⟩ [.int .i64 (n : Int), pv] = H5 at B5 K5 ⊢
  have K35 : Keep (fun _ => False) H3 H5 := K4.to_old K5 (by omega)
  have K05 := K03.trans K35
  have hT5 := hT.keep K05
  have oo : ∀ {A : Hp}, Keep (fun _ => False) H5 A → OrdO A (.pointer (some ⟨ob, 0, none⟩)) (some (n, R)) := fun K => OrdO.keep0 (o := some (n, R)) ho (K35.trans K)
  have tt : ∀ {A : Hp}, Keep (fun _ => False) H5 A → ROrd A (.agg #[.int .i64 (n : Int), pv]) n R := fun K => ht0.keep0 (K35.trans K)
  have hn : n ≤ 256 := hn
  simp only [go_sem, List.map_cons, List.map_nil, ↓reduceIte, Nat.reduceEqDiff, Nat.reduceAdd, Nat.reduceMul, reduceCtorEq, and_true, true_and, Nat.mul_one, Nat.zero_add, Bool.false_eq_true, decide_true, decide_false, not_false_eq_true, kont_eq]
  refine (c.rd (some (n, R)) _ H5 hT5 (oo (Keep.refl _ _))).mono ?_
  rintro sv H6 ⟨O6, K6⟩
  rw [kont_eq]
  simp only [go_sem, List.map_cons, List.map_nil, ↓reduceIte, Nat.reduceEqDiff, Nat.reduceAdd, Nat.reduceMul, reduceCtorEq, and_true, true_and, Nat.mul_one, Nat.zero_add, Bool.false_eq_true, decide_true, decide_false, not_false_eq_true, kont_eq]
  refine (c.cl (some (n, R)) _ H6 (hT5.keep K6) (oo K6)).mono ?_
  rintro gv H7 ⟨O7, K7⟩
  have K57 := K6.trans K7
  have hs : OrdV H7 sv n (redR n R) := OrdV.keep0 O6 K7
  have hg : OrdV H7 gv n (tcB R) := O7
  obtain ⟨sb, rfl⟩ := ptr_of hs
  obtain ⟨gb, rfl⟩ := ptr_of hg
  have ss : ∀ {A : Hp}, Keep (fun _ => False) H7 A → OrdO A (.pointer (some ⟨sb, 0, none⟩)) (some (n, redR n R)) := fun K => OrdO.keep0 (o := some (n, redR n R)) hs K
  have gg : ∀ {A : Hp}, Keep (fun _ => False) H7 A → OrdO A (.pointer (some ⟨gb, 0, none⟩)) (some (n, tcB R)) := fun K => OrdO.keep0 (o := some (n, tcB R)) hg K
  have hT7 := hT5.keep K57
  rw [kont_eq]
  simp only [go_sem, List.map_cons, List.map_nil, ↓reduceIte, Nat.reduceEqDiff, Nat.reduceAdd, Nat.reduceMul, reduceCtorEq, and_true, true_and, Nat.mul_one, Nat.zero_add, Bool.false_eq_true, decide_true, decide_false, not_false_eq_true, kont_eq]
  refine (c.cl (some (n, tcB R)) _ H7 hT7 (gg (Keep.refl _ _))).mono ?_
  rintro v1 H8 ⟨O8, K8⟩
  rw [kont_eq]
  simp only [go_sem, List.map_cons, List.map_nil, ↓reduceIte, Nat.reduceEqDiff, Nat.reduceAdd, Nat.reduceMul, reduceCtorEq, and_true, true_and, Nat.mul_one, Nat.zero_add, Bool.false_eq_true, decide_true, decide_false, not_false_eq_true, kont_eq]
  refine (e.eq (some (n, tcB (tcB R))) (some (n, tcB R)) v1 _ H8 O8 (gg K8)).mono ?_
  rintro x H8' ⟨rfl, rfl⟩
  have q1 : eqO (some (n, tcB (tcB R))) (some (n, tcB R)) = true := by rw [clo_clo]; simp [eqO]
  rw [kont_eq, q1]
  simp only [go_sem, List.map_cons, List.map_nil, ↓reduceIte, Nat.reduceEqDiff, Nat.reduceAdd, Nat.reduceMul, reduceCtorEq, and_true, true_and, Nat.mul_one, Nat.zero_add, Bool.false_eq_true, decide_true, decide_false, not_false_eq_true, kont_eq, Bool.not_true]
  refine (c.rd (some (n, tcB R)) _ H8' (hT7.keep K8) (gg K8)).mono ?_
  rintro v2 H9 ⟨O9, K9⟩
  have K79 := K8.trans K9
  rw [kont_eq]
  simp only [go_sem, List.map_cons, List.map_nil, ↓reduceIte, Nat.reduceEqDiff, Nat.reduceAdd, Nat.reduceMul, reduceCtorEq, and_true, true_and, Nat.mul_one, Nat.zero_add, Bool.false_eq_true, decide_true, decide_false, not_false_eq_true, kont_eq]
  refine (e.eq (some (n, redR n (tcB R))) (some (n, redR n R)) v2 _ H9 O9 (ss K79)).mono ?_
  rintro x H9' ⟨rfl, rfl⟩
  have q2 : eqO (some (n, redR n (tcB R))) (some (n, redR n R)) = true := by rw [red_clo]; simp [eqO]
  rw [kont_eq, q2]
  simp only [go_sem, List.map_cons, List.map_nil, ↓reduceIte, Nat.reduceEqDiff, Nat.reduceAdd, Nat.reduceMul, reduceCtorEq, and_true, true_and, Nat.mul_one, Nat.zero_add, Bool.false_eq_true, decide_true, decide_false, not_false_eq_true, kont_eq, Bool.not_true]
  refine (c.rd (some (n, redR n R)) _ H9' (hT7.keep K79) (ss K79)).mono ?_
  rintro v3 HA ⟨OA, KA⟩
  have K7A := K79.trans KA
  rw [kont_eq]
  simp only [go_sem, List.map_cons, List.map_nil, ↓reduceIte, Nat.reduceEqDiff, Nat.reduceAdd, Nat.reduceMul, reduceCtorEq, and_true, true_and, Nat.mul_one, Nat.zero_add, Bool.false_eq_true, decide_true, decide_false, not_false_eq_true, kont_eq]
  refine (e.eq (some (n, redR n (redR n R))) (some (n, redR n R)) v3 _ HA OA (ss K7A)).mono ?_
  rintro x HA' ⟨rfl, rfl⟩
  have q3 : eqO (some (n, redR n (redR n R))) (some (n, redR n R)) = true := by rw [red_red hR hA]; simp [eqO]
  rw [kont_eq, q3]
  simp only [go_sem, List.map_cons, List.map_nil, ↓reduceIte, Nat.reduceEqDiff, Nat.reduceAdd, Nat.reduceMul, reduceCtorEq, and_true, true_and, Nat.mul_one, Nat.zero_add, Bool.false_eq_true, decide_true, decide_false, not_false_eq_true, kont_eq, Bool.not_true]
  refine (e.prs (some (n, redR n R)) _ HA' (ss K7A)).mono ?_
  rintro w1 HB ⟨OB, oB, KB⟩
  have OB : OwE nE 2 HB w1 (gridP n (redR n R)) := OB
  have K7B := K7A.trans KB
  have hRr := hR.red
  have hRt := hR.clo
  have hgl1 := gridP_len16 (redR n R) hn
  have hgl2 := gridP_len16 (tcB R) hn
  rw [kont_eq]
  simp only [go_sem, List.map_cons, List.map_nil, ↓reduceIte, Nat.reduceEqDiff, Nat.reduceAdd, Nat.reduceMul, reduceCtorEq, and_true, true_and, Nat.mul_one, Nat.zero_add, Bool.false_eq_true, decide_true, decide_false, not_false_eq_true, kont_eq, OB.sl.isSl, OB.sl.lenS, OB.sl.len]
  refine vc_loop [49, 8, 9, 10, 79, 2, 48] rfl (fun m f A => ∃ (q : Nat), q ≤ (gridP n (redR n R)).length ∧ m = (gridP n (redR n R)).length - q ∧ f 48 = .int .i64 (q : Int) ∧ Keep (fun _ => False) HB A) (gridP n (redR n R)).length ?_ ?_
  · exact ⟨0, by omega, by omega, by simp only [go_sem, List.map_cons, List.map_nil, ↓reduceIte, Nat.reduceEqDiff, Nat.reduceAdd, Nat.reduceMul, reduceCtorEq, and_true, true_and, Nat.mul_one, Nat.zero_add, Bool.false_eq_true, decide_true, decide_false, not_false_eq_true, kont_eq]; rfl, Keep.refl _ _⟩
  rintro m f HC ⟨q, hq, rfl, hf48, KC⟩
  have sC := KC.size
  simp only [go_sem, List.map_cons, List.map_nil, ↓reduceIte, Nat.reduceEqDiff, Nat.reduceAdd, Nat.reduceMul, reduceCtorEq, and_true, true_and, Nat.mul_one, Nat.zero_add, Bool.false_eq_true, decide_true, decide_false, not_false_eq_true, kont_eq] at hf48
  simp only [go_sem, List.map_cons, List.map_nil, ↓reduceIte, Nat.reduceEqDiff, Nat.reduceAdd, Nat.reduceMul, reduceCtorEq, and_true, true_and, Nat.mul_one, Nat.zero_add, Bool.false_eq_true, decide_true, decide_false, not_false_eq_true, hf48]
  have K7C := K7B.trans KC
  refine iteV_dec (fun hlt => ?_) (fun hge => ?_)
  · have hlt : q < (gridP n (redR n R)).length := by omega
    have pC := OB.sl.keep0 KC
    obtain ⟨pb, po, pc, rfl, hpq, hld⟩ := pC.elem nE_len hlt
    rw [← at0_eq hlt] at hld
    have hmem : at0 (gridP n (redR n R)) q ∈ (gridP n (redR n R)) := by rw [at0_eq hlt]; exact List.getElem_mem _
    obtain ⟨x, y, hxy⟩ : ∃ x y, at0 (gridP n (redR n R)) q = (x, y) := ⟨_, _, rfl⟩
    rw [hxy] at hld hmem
    have hld' : ldNA HC ⟨pb, po + q * 2, none⟩ 2 = some #[.int .i64 (x : Int), .int .i64 (y : Int)] := hld
    obtain ⟨hx, hy, hxyR⟩ := mem_gridP.1 hmem
    have hx : x < n := hx
    have hy : y < n := hy
    simp only [go_sem, List.map_cons, List.map_nil, ↓reduceIte, Nat.reduceEqDiff, Nat.reduceAdd, Nat.reduceMul, reduceCtorEq, and_true, true_and, Nat.mul_one, Nat.zero_add, Bool.false_eq_true, decide_true, decide_false, not_false_eq_true, fillV_nil, fillV_cons, okFill_nil, okFill_cons, cells_slice, cells_int, cells_bool, cells_str, cells_ptr, cells_agg, stNH_ptr, okN_ptr, wrA1, wrA20, wrA21, tn_cast, ldNO_ptr, hld']
    refine ⟨by omega, ?_⟩
    refine kont_new fun G1 b8 e8 z8 B8 G1K => ?_
    have g1s := G1K.size
    have hst := B8.okNA (o := 0) (n := 2) (by simp)
    have B9 : Bl (stNA G1 ⟨b8, 0, none⟩ [.int .i64 (x : Int), .int .i64 (y : Int)]) b8 [.int .i64 (x : Int), .int .i64 (y : Int)] := B8.stNA 0 [.int .i64 (x : Int), .int .i64 (y : Int)]
    have G2K : Keep (fun q => q = b8) G1 (stNA G1 ⟨b8, 0, none⟩ [.int .i64 (x : Int), .int .i64 (y : Int)]) := (Keep.refl _ _).stNA _ (.inl rfl)
    have ha1 : all1 #[Value.int .i64 (x : Int), Value.int .i64 (y : Int)] := fun w hw => by simp at hw; rcases hw with rfl | rfl <;> rfl
    simp only [go_sem, List.map_cons, List.map_nil, ↓reduceIte, Nat.reduceEqDiff, Nat.reduceAdd, Nat.reduceMul, reduceCtorEq, and_true, true_and, Nat.mul_one, Nat.zero_add, Bool.false_eq_true, decide_true, decide_false, not_false_eq_true, fillV_nil, fillV_cons, okFill_nil, okFill_cons, cells_slice, cells_int, cells_bool, cells_str, cells_ptr, cells_agg, stNH_ptr, okN_ptr, wrA1, wrA20, wrA21, hst]
    refine ⟨ha1, ?_⟩
    rw [kont_eq]
    generalize stNA G1 ⟨b8, 0, none⟩ [.int .i64 (x : Int), .int .i64 (y : Int)] = G2 at B9 G2K ⊢
    have g2s := G2K.size
    have KG : Keep (fun _ => False) HC G2 := G1K.to_old G2K (by omega)
    have cx : cell G2 ⟨b8, 0, none⟩ = some (.int .i64 (x : Int)) := by rw [B9.cell]; rfl
    have cy : cell G2 ⟨b8, 1, none⟩ = some (.int .i64 (y : Int)) := by rw [B9.cell]; rfl
    have K7G := K7C.trans KG
    simp only [go_sem, List.map_cons, List.map_nil, ↓reduceIte, Nat.reduceEqDiff, Nat.reduceAdd, Nat.reduceMul, reduceCtorEq, and_true, true_and, Nat.mul_one, Nat.zero_add, Bool.false_eq_true, decide_true, decide_false, not_false_eq_true, kont_eq, fillV_nil, fillV_cons, okFill_nil, okFill_cons, cells_slice, cells_int, cells_bool, cells_str, cells_ptr, cells_agg, stNH_ptr, okN_ptr, wrA1, wrA20, wrA21, cx, cy]
    repeat (refine ⟨by omega, ?_⟩)
    refine (e.wo (some (n, redR n R)) _ (x : Int) (y : Int) G2 (hT7.keep K7G) (ss K7G)).mono ?_
    rintro r G3 ⟨hr, KG3, _⟩
    have K7G3 := K7G.trans KG3
    obtain ⟨qv, rfl, hqv⟩ : ∃ qv, r = .tuple #[qv, .int .i64 0] ∧ OrdV G3 qv n (lessR (redR n R) x y) := by
      rcases hr with ⟨h, _⟩ | ⟨n', R', h1, h2⟩
      · cases h
      · cases h1
        rcases h2 with ⟨h, _⟩ | ⟨_, pv', h3, h4⟩
        · exact absurd (List.mem_map.2 ⟨(x, y), hmem, rfl⟩) h
        · rw [Int.toNat_natCast, Int.toNat_natCast] at h4
          exact ⟨pv', h3, h4⟩
    have B3 := KG3.bl B9 (by simp)
    have cx3 : cell G3 ⟨b8, 0, none⟩ = some (.int .i64 (x : Int)) := by rw [B3.cell]; rfl
    have cy3 : cell G3 ⟨b8, 1, none⟩ = some (.int .i64 (y : Int)) := by rw [B3.cell]; rfl
    have e00 : ((0 : Int) != 0) = false := rfl
    rw [kont_eq]
    simp only [go_sem, List.map_cons, List.map_nil, ↓reduceIte, Nat.reduceEqDiff, Nat.reduceAdd, Nat.reduceMul, reduceCtorEq, and_true, true_and, Nat.mul_one, Nat.zero_add, Bool.false_eq_true, decide_true, decide_false, not_false_eq_true, kont_eq, fillV_nil, fillV_cons, okFill_nil, okFill_cons, cells_slice, cells_int, cells_bool, cells_str, cells_ptr, cells_agg, stNH_ptr, okN_ptr, wrA1, wrA20, wrA21, cx3, cy3, e00]
    repeat (refine ⟨by omega, ?_⟩)
    refine (c.less (some (n, lessR (redR n R) x y)) qv (y : Int) (x : Int) G3 hqv).mono ?_
    rintro r G4 ⟨rfl, KG4⟩
    have f1 : memI (abvO (some (n, lessR (redR n R) x y)) (y : Int)) (x : Int) = false := by
      rw [memI_abv (hRr.less x y) hn hy]
      cases h : tcB (lessR (redR n R) x y) x y with
      | false => rfl
      | true => exact absurd (tcB_iff.1 h) (red_less hR hA hxyR)
    have K7G4 := K7G3.trans KG4
    have B4' := KG4.bl B3 (by simp)
    have cx4 : cell G4 ⟨b8, 0, none⟩ = some (.int .i64 (x : Int)) := by rw [B4'.cell]; rfl
    have cy4 : cell G4 ⟨b8, 1, none⟩ = some (.int .i64 (y : Int)) := by rw [B4'.cell]; rfl
    rw [kont_eq, f1]
    simp only [go_sem, List.map_cons, List.map_nil, ↓reduceIte, Nat.reduceEqDiff, Nat.reduceAdd, Nat.reduceMul, reduceCtorEq, and_true, true_and, Nat.mul_one, Nat.zero_add, Bool.false_eq_true, decide_true, decide_false, not_false_eq_true, kont_eq, fillV_nil, fillV_cons, okFill_nil, okFill_cons, cells_slice, cells_int, cells_bool, cells_str, cells_ptr, cells_agg, stNH_ptr, okN_ptr, wrA1, wrA20, wrA21, cx4, cy4]
    repeat (refine ⟨by omega, ?_⟩)
    refine (c.less (some (n, R)) _ (y : Int) (x : Int) G4 (oo (K57.trans K7G4))).mono ?_
    rintro r G5 ⟨rfl, KG5⟩
    have f2 : memI (abvO (some (n, R)) (y : Int)) (x : Int) = true := by
      rw [memI_abv hR hn hy]
      unfold redR at hxyR
      simp only [Bool.and_eq_true] at hxyR
      exact hxyR.1
    rw [kont_eq, f2]
    simp (disch := omega) only [go_sem, List.map_cons, List.map_nil, ↓reduceIte, Nat.reduceEqDiff, Nat.reduceAdd, Nat.reduceMul, reduceCtorEq, and_true, true_and, Nat.mul_one, Nat.zero_add, Bool.false_eq_true, decide_true, decide_false, not_false_eq_true, kont_eq, fillV_nil, fillV_cons, okFill_nil, okFill_cons, cells_slice, cells_int, cells_bool, cells_str, cells_ptr, cells_agg, stNH_ptr, okN_ptr, wrA1, wrA20, wrA21, hf48, Bool.not_true, IntWalk.i64_in]
    exact ⟨(gridP n (redR n R)).length - (q + 1), by omega, q + 1, by omega, rfl, rfl, KC.trans (((KG.trans KG3).trans KG4).trans KG5)⟩
  · -- the second loop
    refine (e.prs (some (n, tcB R)) _ HC (gg K7C)).mono ?_
    rintro w2 HD ⟨OD, oD, KD⟩
    have OD : OwE nE 2 HD w2 (gridP n (tcB R)) := OD
    have K7D := K7C.trans KD
    rw [kont_eq]
    simp only [go_sem, List.map_cons, List.map_nil, ↓reduceIte, Nat.reduceEqDiff, Nat.reduceAdd, Nat.reduceMul, reduceCtorEq, and_true, true_and, Nat.mul_one, Nat.zero_add, Bool.false_eq_true, decide_true, decide_false, not_false_eq_true, kont_eq, OD.sl.isSl, OD.sl.lenS, OD.sl.len]
    refine vc_loop [85, 12, 102, 2, 84] rfl (fun m f A => ∃ (q : Nat), q ≤ (gridP n (tcB R)).length ∧ m = (gridP n (tcB R)).length - q ∧ f 84 = .int .i64 (q : Int) ∧ Keep (fun _ => False) HD A) (gridP n (tcB R)).length ?_ ?_
    · exact ⟨0, by omega, by omega, by simp only [go_sem, List.map_cons, List.map_nil, ↓reduceIte, Nat.reduceEqDiff, Nat.reduceAdd, Nat.reduceMul, reduceCtorEq, and_true, true_and, Nat.mul_one, Nat.zero_add, Bool.false_eq_true, decide_true, decide_false, not_false_eq_true, kont_eq]; rfl, Keep.refl _ _⟩
    rintro m f2 HE ⟨q2, hq2, rfl, hf84, KE⟩
    have sE := KE.size
    simp only [go_sem, List.map_cons, List.map_nil, ↓reduceIte, Nat.reduceEqDiff, Nat.reduceAdd, Nat.reduceMul, reduceCtorEq, and_true, true_and, Nat.mul_one, Nat.zero_add, Bool.false_eq_true, decide_true, decide_false, not_false_eq_true, kont_eq] at hf84
    simp only [go_sem, List.map_cons, List.map_nil, ↓reduceIte, Nat.reduceEqDiff, Nat.reduceAdd, Nat.reduceMul, reduceCtorEq, and_true, true_and, Nat.mul_one, Nat.zero_add, Bool.false_eq_true, decide_true, decide_false, not_false_eq_true, hf84]
    have K7E := K7D.trans KE
    refine iteV_dec (fun hlt => ?_) (fun hge => ?_)
    · have hlt : q2 < (gridP n (tcB R)).length := by omega
      have pE2 := OD.sl.keep0 KE
      obtain ⟨pb, po, pc, rfl, hpq, hld⟩ := pE2.elem nE_len hlt
      rw [← at0_eq hlt] at hld
      have hmem : at0 (gridP n (tcB R)) q2 ∈ (gridP n (tcB R)) := by rw [at0_eq hlt]; exact List.getElem_mem _
      obtain ⟨x, y, hxy⟩ : ∃ x y, at0 (gridP n (tcB R)) q2 = (x, y) := ⟨_, _, rfl⟩
      rw [hxy] at hld hmem
      have hld' : ldNA HE ⟨pb, po + q2 * 2, none⟩ 2 = some #[.int .i64 (x : Int), .int .i64 (y : Int)] := hld
      obtain ⟨hx, hy, hxyR⟩ := mem_gridP.1 hmem
      have hx : x < n := hx
      have hy : y < n := hy
      simp only [go_sem, List.map_cons, List.map_nil, ↓reduceIte, Nat.reduceEqDiff, Nat.reduceAdd, Nat.reduceMul, reduceCtorEq, and_true, true_and, Nat.mul_one, Nat.zero_add, Bool.false_eq_true, decide_true, decide_false, not_false_eq_true, fillV_nil, fillV_cons, okFill_nil, okFill_cons, cells_slice, cells_int, cells_bool, cells_str, cells_ptr, cells_agg, stNH_ptr, okN_ptr, wrA1, wrA20, wrA21, tn_cast, ldNO_ptr, hld']
      refine ⟨by omega, ?_⟩
      refine kont_new fun G1 b8 e8 z8 B8 G1K => ?_
      have g1s := G1K.size
      have hst := B8.okNA (o := 0) (n := 2) (by simp)
      have B9 : Bl (stNA G1 ⟨b8, 0, none⟩ [.int .i64 (x : Int), .int .i64 (y : Int)]) b8 [.int .i64 (x : Int), .int .i64 (y : Int)] := B8.stNA 0 [.int .i64 (x : Int), .int .i64 (y : Int)]
      have G2K : Keep (fun q => q = b8) G1 (stNA G1 ⟨b8, 0, none⟩ [.int .i64 (x : Int), .int .i64 (y : Int)]) := (Keep.refl _ _).stNA _ (.inl rfl)
      have ha1 : all1 #[Value.int .i64 (x : Int), Value.int .i64 (y : Int)] := fun w hw => by simp at hw; rcases hw with rfl | rfl <;> rfl
      simp only [go_sem, List.map_cons, List.map_nil, ↓reduceIte, Nat.reduceEqDiff, Nat.reduceAdd, Nat.reduceMul, reduceCtorEq, and_true, true_and, Nat.mul_one, Nat.zero_add, Bool.false_eq_true, decide_true, decide_false, not_false_eq_true, fillV_nil, fillV_cons, okFill_nil, okFill_cons, cells_slice, cells_int, cells_bool, cells_str, cells_ptr, cells_agg, stNH_ptr, okN_ptr, wrA1, wrA20, wrA21, hst]
      refine ⟨ha1, ?_⟩
      rw [kont_eq]
      generalize stNA G1 ⟨b8, 0, none⟩ [.int .i64 (x : Int), .int .i64 (y : Int)] = G2 at B9 G2K ⊢
      have g2s := G2K.size
      have KG : Keep (fun _ => False) HE G2 := G1K.to_old G2K (by omega)
      have cx : cell G2 ⟨b8, 0, none⟩ = some (.int .i64 (x : Int)) := by rw [B9.cell]; rfl
      have cy : cell G2 ⟨b8, 1, none⟩ = some (.int .i64 (y : Int)) := by rw [B9.cell]; rfl
      have K7G := K7E.trans KG
      simp only [go_sem, List.map_cons, List.map_nil, ↓reduceIte, Nat.reduceEqDiff, Nat.reduceAdd, Nat.reduceMul, reduceCtorEq, and_true, true_and, Nat.mul_one, Nat.zero_add, Bool.false_eq_true, decide_true, decide_false, not_false_eq_true, kont_eq, fillV_nil, fillV_cons, okFill_nil, okFill_cons, cells_slice, cells_int, cells_bool, cells_str, cells_ptr, cells_agg, stNH_ptr, okN_ptr, wrA1, wrA20, wrA21, cx, cy]
      repeat (refine ⟨by omega, ?_⟩)
      refine (c.less (some (n, R)) _ (y : Int) (x : Int) G2 (oo (K57.trans K7G))).mono ?_
      rintro r G3 ⟨rfl, KG3⟩
      have K7G3 := K7G.trans KG3
      have f2 : memI (abvO (some (n, R)) (y : Int)) (x : Int) = true := by
        rw [memI_abv hR hn hy]; exact hxyR
      have B3 := KG3.bl B9 (by simp)
      have cx3 : cell G3 ⟨b8, 0, none⟩ = some (.int .i64 (x : Int)) := by rw [B3.cell]; rfl
      have cy3 : cell G3 ⟨b8, 1, none⟩ = some (.int .i64 (y : Int)) := by rw [B3.cell]; rfl
      rw [kont_eq, f2]
      simp only [go_sem, List.map_cons, List.map_nil, ↓reduceIte, Nat.reduceEqDiff, Nat.reduceAdd, Nat.reduceMul, reduceCtorEq, and_true, true_and, Nat.mul_one, Nat.zero_add, Bool.false_eq_true, decide_true, decide_false, not_false_eq_true, kont_eq, fillV_nil, fillV_cons, okFill_nil, okFill_cons, cells_slice, cells_int, cells_bool, cells_str, cells_ptr, cells_agg, stNH_ptr, okN_ptr, wrA1, wrA20, wrA21, cx3, cy3, Bool.not_true]
      repeat (refine ⟨by omega, ?_⟩)
      refine (c.less (some (n, tcB R)) _ (x : Int) (y : Int) G3 (gg K7G3)).mono ?_
      rintro r G4 ⟨rfl, KG4⟩
      have f1 : memI (abvO (some (n, tcB R)) (x : Int)) (y : Int) = false := by
        rw [memI_abv hRt hn hx, clo_clo]
        cases h : tcB R y x with
        | false => rfl
        | true => exact absurd ((tcB_iff.1 hxyR).trans (tcB_iff.1 h)) (hA x)
      rw [kont_eq, f1]
      simp (disch := omega) only [go_sem, List.map_cons, List.map_nil, ↓reduceIte, Nat.reduceEqDiff, Nat.reduceAdd, Nat.reduceMul, reduceCtorEq, and_true, true_and, Nat.mul_one, Nat.zero_add, Bool.false_eq_true, decide_true, decide_false, not_false_eq_true, kont_eq, fillV_nil, fillV_cons, okFill_nil, okFill_cons, cells_slice, cells_int, cells_bool, cells_str, cells_ptr, cells_agg, stNH_ptr, okN_ptr, wrA1, wrA20, wrA21, hf84, IntWalk.i64_in]
      exact ⟨(gridP n (tcB R)).length - (q2 + 1), by omega, q2 + 1, by omega, rfl, rfl, KE.trans ((KG.trans KG3).trans KG4)⟩
    · refine (e.prs (some (n, tcB R)) _ HE (gg K7E)).mono ?_
      rintro w3 HF ⟨OF, oF, KF⟩
      have OF : OwE nE 2 HF w3 (gridP n (tcB R)) := OF
      have K7F := K7E.trans KF
      rw [kont_eq]
      simp only [go_sem, List.map_cons, List.map_nil, ↓reduceIte, Nat.reduceEqDiff, Nat.reduceAdd, Nat.reduceMul, reduceCtorEq, and_true, true_and, Nat.mul_one, Nat.zero_add, Bool.false_eq_true, decide_true, decide_false, not_false_eq_true, kont_eq, OF.sl.isSl, OF.sl.lenS, OF.sl.len]
      refine (e.len (some (n, R)) _ HF (oo (K57.trans K7F))).mono ?_
      rintro x HF' ⟨rfl, rfl⟩
      rw [kont_eq]
      simp only [go_sem, List.map_cons, List.map_nil, ↓reduceIte, Nat.reduceEqDiff, Nat.reduceAdd, Nat.reduceMul, reduceCtorEq, and_true, true_and, Nat.mul_one, Nat.zero_add, Bool.false_eq_true, decide_true, decide_false, not_false_eq_true, kont_eq]
      refine (e.len (some (n, R)) _ HF' (oo (K57.trans K7F))).mono ?_
      rintro x HF2 ⟨rfl, rfl⟩
      have hh := half (n := n) hA
      have e1 : ((lenO (some (n, R)) : Nat) : Int) = (n : Int) := rfl
      have w1 : IntKind.i64.wrap ((n : Int) - 1) = (n : Int) - 1 := IntWalk.i64_in _ (by omega)
      have hfin : decide (((gridP n (tcB R)).length : Int) ≤ IntKind.i64.wrap ((IntKind.i64.wrap ((n : Int) * ((n : Int) - 1))).tdiv 2)) = true := by
        refine decide_eq_true ?_
        obtain ⟨g, hge⟩ : ∃ g, g = (gridP n (tcB R)).length := ⟨_, rfl⟩
        rw [← hge] at hh ⊢
        have hcase : n = 0 ∨ n = 1 ∨ n = 2 ∨ n = 3 ∨ n = 4 ∨ n = 5 ∨ n = 6 ∨ n = 7 := by omega
        clear hge
        rcases hcase with h | h | h | h | h | h | h | h <;> rw [h] at hh ⊢
        · show (g : Int) ≤ 0; omega
        · show (g : Int) ≤ 0; omega
        · show (g : Int) ≤ 1; omega
        · show (g : Int) ≤ 3; omega
        · show (g : Int) ≤ 6; omega
        · show (g : Int) ≤ 10; omega
        · show (g : Int) ≤ 15; omega
        · show (g : Int) ≤ 21; omega
      rw [kont_eq]
      simp only [go_sem, List.map_cons, List.map_nil, ↓reduceIte, Nat.reduceEqDiff, Nat.reduceAdd, Nat.reduceMul, reduceCtorEq, and_true, true_and, Nat.mul_one, Nat.zero_add, Bool.false_eq_true, decide_true, decide_false, not_false_eq_true, kont_eq, fillV_nil, fillV_cons, okFill_nil, okFill_cons, cells_slice, cells_int, cells_bool, cells_str, cells_ptr, cells_agg, stNH_ptr, okN_ptr, wrA1, wrA20, wrA21, e1, w1, hfin]
      rw [hQ]
      exact ⟨by omega, rfl, (K05.trans K57).trans (K7E.trans KF)⟩
end Go.Mg
