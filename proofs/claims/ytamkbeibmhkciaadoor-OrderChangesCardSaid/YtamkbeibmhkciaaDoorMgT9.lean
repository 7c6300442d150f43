/- order: the law Changes. -/
import Derived.Test.YtamkbeibmhkciaaDoorMgT8
import Derived.Test.YtamkbeibmhkciaaDoorMgU1
import Derived.Test.YtamkbeibmhkciaaDoorMgT0
namespace Go.Mg
open Go Go.RowKit
set_option linter.unusedSimpArgs false
set_option linter.unusedVariables false
set_option maxRecDepth 100000
/- arbaclaw06.OrderChanges -/
def c_lchg (ι : Ids) : S :=
  .seq (.reg [.e (.v 2) (.box (ι.t 263) (.v 0)), .p (.v 4) (.mv (.c (.bool false)))]) (.seq (.seq (.reg [.e (.t 15) (.call (ι.f 270) []), .p (.v 16) (.not (.t 15))]) (.ite (.v 16) (.seq (.reg [.p (.v 4)
  (.mv (.c (.bool false)))]) .ret) .skip)) (.seq (.reg [.p (.t 18) (.m (.ldn 4 (.v 2))), .e (.t 19) (.call (ι.f 268) [.t 18]), .p (.t 17) (.mv (.t 19)), .p (.t 20) (.ext (.t 17) 0), .p (.t 21) (.ext (.t
  17) 1), .e (.v 6) (.new (ι.t 246) #[.int .i64 0, .slice .none 0 0]), .p (.v 5) (.mv (.t 20)), .e .no (.stn 2 (.v 6) (.t 21))]) (.seq (.seq (.reg [.p (.t 22) (.mv (.v 5)), .p (.v 23) (.m (.eqn .ptr
  false (.t 22)))]) (.ite (.v 23) (.seq (.reg [.p (.v 4) (.mv (.c (.bool false)))]) .ret) .skip)) (.seq (.seq (.reg [.p (.t 24) (.mv (.v 1)), .p (.t 25) (.mv (.v 1)), .p (.t 26) (.m (.lenl (.t 25))), .p
  (.t 27) (.m (.mn (.t 26) (.c (.int .i64 10)))), .p (.v 28) (.m (.sls 2 (.t 24) .none (.some (.t 27)))), .p (.v 29) (.m (.lenl (.v 28))), .p (.v 30) (.mv (.c (.int .i64 0)))]) (.blk 0 (.loop (.seq
  (.reg [.p (.v 31) (.cm .lss .i64 (.v 30) (.v 29))]) (.seq (.ite (.v 31) .skip (.exit 0)) (.seq (.blk 1 (.seq (.reg [.p (.t 32) (.mv (.v 30)), .p (.t 33) (.is 2 (.v 28) (.v 30)), .p (.t 34) (.m (.ldn 2
  (.t 33))), .e (.v 8) (.new (ι.t 279) #[.int .i8 0, .int .i8 0]), .p (.v 7) (.mv (.t 32)), .e .no (.stn 2 (.v 8) (.t 34))]) (.seq (.reg [.p (.t 35) (.ia 2 1 (.v 8) (.c (.int .i64 0))), .p (.t 36) (.ld
  (.t 35)), .p (.t 37) (.ii .i64 (.t 36)), .p (.t 38) (.ia 2 1 (.v 8) (.c (.int .i64 1))), .p (.t 39) (.ld (.t 38)), .p (.t 40) (.ii .i64 (.t 39)), .p (.v 9) (.mv (.t 37)), .p (.v 10) (.mv (.t 40))])
  (.seq (.reg [.p (.t 42) (.mv (.v 5)), .p (.t 43) (.mv (.v 9)), .p (.t 44) (.mv (.v 10)), .e (.t 45) (.call (ι.f 230) [.t 42, .t 43, .t 44]), .p (.t 41) (.mv (.t 45)), .p (.t 46) (.ext (.t 41) 0), .p
  (.t 47) (.ext (.t 41) 1), .p (.v 11) (.mv (.t 46)), .p (.v 12) (.mv (.t 47))]) (.seq (.reg [.p (.t 49) (.m (.ldn 2 (.v 6))), .p (.t 50) (.mv (.v 9)), .p (.t 51) (.mv (.v 10)), .e (.t 52) (.call (ι.f
  257) [.t 49, .t 50, .t 51]), .p (.t 48) (.mv (.t 52)), .p (.t 53) (.ext (.t 48) 0), .p (.t 54) (.ext (.t 48) 1), .e (.v 13) (.new (ι.t 246) #[.int .i64 0, .slice .none 0 0]), .e .no (.stn 2 (.v 13)
  (.t 53)), .p (.v 14) (.mv (.t 54))]) (.seq (.seq (.reg [.p (.t 55) (.mv (.v 7)), .p (.t 56) (.dv .rem .i64 (.t 55) (.c (.int .i64 2))), .p (.v 57) (.cm .eql .i64 (.t 56) (.c (.int .i64 1)))]) (.ite
  (.v 57) (.seq (.reg [.p (.t 59) (.mv (.v 5)), .p (.t 60) (.mv (.v 9)), .p (.t 61) (.mv (.v 10)), .e (.t 62) (.call (ι.f 231) [.t 59, .t 60, .t 61]), .p (.t 58) (.mv (.t 62)), .p (.t 63) (.ext (.t 58)
  0), .p (.t 64) (.ext (.t 58) 1), .p (.v 11) (.mv (.t 63)), .p (.v 12) (.mv (.t 64))]) (.reg [.p (.t 66) (.m (.ldn 2 (.v 6))), .p (.t 67) (.mv (.v 9)), .p (.t 68) (.mv (.v 10)), .e (.t 69) (.call (ι.f
  258) [.t 66, .t 67, .t 68]), .p (.t 65) (.mv (.t 69)), .p (.t 70) (.ext (.t 65) 0), .p (.t 71) (.ext (.t 65) 1), .e .no (.stn 2 (.v 13) (.t 70)), .p (.v 14) (.mv (.t 71))])) .skip)) (.seq (.seq (.reg
  [.p (.t 72) (.mv (.v 12)), .p (.t 73) (.mv (.v 14)), .p (.t 74) (.cm .neq .i64 (.t 72) (.t 73)), .p (.t 75) (.mv (.t 74)), .gp (.t 76) (.t 75) false (.mv (.v 5)), .gp (.t 77) (.t 75) false (.m (.ldn 2
  (.v 6))), .ge (.t 78) (.t 75) false (.call (ι.f 269) [.t 76, .t 77]), .gp (.t 79) (.t 75) false (.not (.t 78)), .p (.t 80) (.pick (.t 75) (.c (.bool true)) (.t 79)), .p (.t 81) (.mv (.t 80)), .gp (.t
  82) (.t 81) false (.mv (.v 12)), .gp (.t 83) (.t 81) false (.cm .neq .i64 (.t 82) (.c (.int .i64 0))), .gp (.t 84) (.t 81) false (.mv (.t 83)), .gp (.t 85) (.t 84) true (.mv (.v 11)), .gp (.t 86) (.t
  84) true (.m (.eqn .ptr true (.t 85))), .gp (.t 87) (.t 81) false (.pick (.t 84) (.t 86) (.c (.bool false))), .p (.v 88) (.pick (.t 81) (.c (.bool true)) (.t 87))]) (.ite (.v 88) (.seq (.reg [.p (.v
  4) (.mv (.c (.bool false)))]) .ret) .skip)) (.seq (.reg [.p (.t 89) (.mv (.v 12)), .p (.v 90) (.cm .eql .i64 (.t 89) (.c (.int .i64 0)))]) (.ite (.v 90) (.reg [.p (.t 91) (.mv (.v 11)), .p (.t 92) (.m
  (.ldn 2 (.v 13))), .p (.v 5) (.mv (.t 91)), .e .no (.stn 2 (.v 6) (.t 92))]) .skip))))))))) (.reg [.p (.t 93) (.ar .add .i64 (.v 30) (.c (.int .i64 1))), .p (.v 30) (.mv (.t 93))]))))))) (.seq (.reg
  [.p (.t 94) (.mv (.v 5)), .p (.t 95) (.m (.ldn 2 (.v 6))), .e (.t 96) (.call (ι.f 269) [.t 94, .t 95]), .p (.v 4) (.mv (.t 96))]) .ret)))))
def r_lchg : List RV := [.t 4]

structure ChgC (P : Program) (ι : Ids) : Prop where
  wt : OWithSpec P ι (ι.f 230)
  wo : OWoutSpec P ι (ι.f 231)
  rw_ : RWith2Spec P (ι.f 257)
  ro : RWout2Spec P (ι.f 258)
/-- the program's result and the reference's, where they match -/
def MtO (B n : Nat) (A : Hp) (p u : Value) (q : Int) : Prop := (q ≠ 0 ∧ p = .pointer none) ∨ (q = 0 ∧ ∃ R', OrdV A p n R' ∧ frV B A p ∧ ROrd A u n R' ∧ frO B u)
theorem MtO.keep {B n : Nat} {A A' : Hp} {p u : Value} {q : Int} {W : Nat → Prop} (h : MtO B n A p u q) (hk : Keep W A A') (hw : ∀ z, B ≤ z → ¬ W z) : MtO B n A' p u q := by
  rcases h with h | ⟨h0, R', h1, h2, ⟨h3, h4, pv, rfl, h5⟩, h6⟩
  · exact .inl h
  · exact .inr ⟨h0, R', h1.keepF h2 hk fun z hz _ => hw z hz, h2.keep h1 hk fun z hz _ => hw z hz, ⟨h3, h4, pv, rfl, h5.keep hk fun z hz => hw z (h6 _ _ rfl z hz)⟩, h6⟩
theorem MtO.mono {B B' n : Nat} {A : Hp} {p u : Value} {q : Int} (h : MtO B n A p u q) (hb : B' ≤ B) : MtO B' n A p u q := by
  rcases h with h | ⟨h0, R', h1, h2, h3, h6⟩
  · exact .inl h
  · exact .inr ⟨h0, R', h1, h2.mono hb, h3, fun x pv e z hz => Nat.le_trans hb (h6 x pv e z hz)⟩
theorem inO_ok {n : Nat} {R : Nat → Nat → Bool} {a b : Int} : (inO (some (n, R)) a && inO (some (n, R)) b) = true ↔ okP (n : Int) (a, b) := by
  simp only [inO, okP, Bool.and_eq_true, decide_eq_true_eq]
  omega
theorem new_mt {n : Nat} {L : List (Int × Int)} {r r2 : Value} {A A' : Hp} {B : Nat} (h : NewRes (n : Int) L r A) (hf : frN B A r) (h2 : RNewRes (n : Int) L r2 A') (hf2 : frR B r2) (hk : Keep (fun _ => False) A A') :
    ∃ (p c d : Value) (q x : Int), r = .tuple #[p, .int .i64 q] ∧ r2 = .tuple #[.agg #[c, d], .int .i64 q] ∧ c = .int .i64 x ∧ isSl d ∧ MtO B n A' p (.agg #[c, d]) q := by
  rcases h with ⟨hb, h1⟩ | ⟨hb, ho, h1⟩ | ⟨hb, ho, ha, h1⟩ | ⟨hb, ho, ha, pv, h1, hO⟩
  · rcases h2 with ⟨_, h2⟩ | ⟨hb', _⟩ | ⟨hb', _⟩ | ⟨hb', _⟩
    · exact ⟨_, _, _, _, _, h1, h2, rfl, trivial, .inl ⟨by omega, rfl⟩⟩
    · exact absurd hb hb'
    · exact absurd hb hb'
    · exact absurd hb hb'
  · rcases h2 with ⟨hb', _⟩ | ⟨_, _, h2⟩ | ⟨_, ho', _⟩ | ⟨_, ho', _⟩
    · exact absurd hb' hb
    · exact ⟨_, _, _, _, _, h1, h2, rfl, trivial, .inl ⟨by omega, rfl⟩⟩
    · exact absurd ho' ho
    · exact absurd ho' ho
  · rcases h2 with ⟨hb', _⟩ | ⟨_, ho', _⟩ | ⟨_, _, _, h2⟩ | ⟨_, _, ha', _⟩
    · exact absurd hb' hb
    · exact absurd ho ho'
    · exact ⟨_, _, _, _, _, h1, h2, rfl, trivial, .inl ⟨by omega, rfl⟩⟩
    · exact absurd ha' ha
  · rcases h2 with ⟨hb', _⟩ | ⟨_, ho', _⟩ | ⟨_, _, ha', _⟩ | ⟨_, _, _, tv, h2, hR⟩
    · exact absurd hb' hb
    · exact absurd ho ho'
    · exact absurd ha ha'
    · rw [Int.toNat_natCast] at hO hR
      have hR0 := hR
      obtain ⟨h3, h4, pv', rfl, h5⟩ := hR
      have hfp := hf _ _ h1
      exact ⟨_, _, _, _, _, h1, h2, rfl, h5.isSl, .inr ⟨rfl, _, hO.keep0 hk, hfp.keep hO hk (by simp), hR0, fun x pv'' e z hz => by
        simp only [Value.agg.injEq, Array.mk.injEq, List.cons.injEq, and_true] at e
        exact hf2 _ _ _ h2 z (by rw [e.2]; exact hz)⟩⟩
theorem wf_i8 {n : Int} (h : (Lit.int .i8 n).wf = true) : -128 ≤ n ∧ n ≤ 127 := by
  simp only [Lit.wf, Bool.and_eq_true, decide_eq_true_eq] at h
  exact ⟨h.1, h.2⟩
def LawCSpec (P : Program) (ι : Ids) (k : FuncId) : Prop := ∀ (r : RawN) (v : Value) (L : List (Int × Int)) (lv : Value) (H : Hp), TabOk ι H → RawV H v r → SlE (kE .i8) 2 H lv L → (∀ p ∈ L, (Lit.int .i8 p.1).wf = true ∧ (Lit.int .i8 p.2).wf = true) → CallsM P k #[v, lv] H fun x H' => x = .bool true ∧ Keep (fun _ => False) H H'
theorem lchg_ok {P : Program} {ι : Ids} {k : FuncId} (hk : FnIs P k (c_lchg ι) r_lchg 2) (c : LawC P ι) (e : ChgC P ι) : LawCSpec P ι k := by
  intro r v L lv H hT hv hL hwf
  have hv0 := hv
  obtain ⟨rp, rfl, hp, hl⟩ := hv
  obtain ⟨Q, hQ⟩ : ∃ Q : Value → Hp → Prop, Q = fun x H' => x = .bool true ∧ Keep (fun _ => False) H H' := ⟨_, rfl⟩
  rw [← hQ]
  refine calls_of_vc hk (args := [_, _]) (by simp) ?_
  unfold c_lchg r_lchg
  simp only [go_sem, List.map_cons, List.map_nil, ↓reduceIte, Nat.reduceEqDiff, Nat.reduceAdd, Nat.reduceMul, reduceCtorEq, and_true, true_and, Nat.mul_one, Nat.zero_add, Bool.false_eq_true, decide_true, decide_false, not_false_eq_true]
  refine kont_new fun H1 b1 e1 z1 B1 K1 => ?_
  have s1 := K1.size
  have B1' : Bl H1 b1 [.int .u8 (r.N : Int), .int .u8 (r.T : Int), .int .u8 (r.A : Int), rp] := B1
  simp only [go_sem, List.map_cons, List.map_nil, ↓reduceIte, Nat.reduceEqDiff, Nat.reduceAdd, Nat.reduceMul, reduceCtorEq, and_true, true_and, Nat.mul_one, Nat.zero_add, Bool.false_eq_true, decide_true, decide_false, not_false_eq_true, kont_eq]
  refine (c.awk H1 (hT.keep K1)).mono ?_
  rintro x H2 ⟨rfl, K2⟩
  have B2 := K2.bl B1' (by simp)
  have K02 := K1.trans K2
  rw [kont_eq]
  simp only [go_sem, List.map_cons, List.map_nil, ↓reduceIte, Nat.reduceEqDiff, Nat.reduceAdd, Nat.reduceMul, reduceCtorEq, and_true, true_and, Nat.mul_one, Nat.zero_add, Bool.false_eq_true, decide_true, decide_false, not_false_eq_true, kont_eq, B2.ldNO 4 rfl]
  refine (c.mak r _ H2 (hT.keep K02) (hv0.keep0 K02)).mono ?_
  rintro x H3 ⟨ov, tv, rfl, ho, ht, _, _, K3⟩
  have K03 := K02.trans K3
  obtain ⟨ob, rfl⟩ := ptr_of ho
  have ht0 := ht
  obtain ⟨hn, hR, pv, rfl, hpv⟩ := ht
  have hA := ho.2.2.1
  have hsz := szR_lt r
  obtain ⟨n, hne⟩ : ∃ n, n = szR r := ⟨_, rfl⟩
  obtain ⟨R, hRe⟩ : ∃ R, R = relF r := ⟨_, rfl⟩
  rw [← hne, ← hRe] at ho ht0 hpv hR
  rw [← hRe] at hA
  rw [← hne] at hsz hn
  rw [kont_eq]
  simp only [go_sem, List.map_cons, List.map_nil, ↓reduceIte, Nat.reduceEqDiff, Nat.reduceAdd, Nat.reduceMul, reduceCtorEq, and_true, true_and, Nat.mul_one, Nat.zero_add, Bool.false_eq_true, decide_true, decide_false, not_false_eq_true, fillV_nil, fillV_cons, okFill_nil, okFill_cons, cells_slice, cells_int, cells_bool, cells_str, cells_ptr, cells_agg, stNH_ptr, okN_ptr, wrA1, wrA20, wrA21]
  refine kont_new fun H4 b4 e4 z4 B4 K4 => ?_
  have s4 := K4.size
  have hst4 := B4.okNA (o := 0) (n := 2) (by simp)
  have B5 : Bl (stNA H4 ⟨b4, 0, none⟩ [.int .i64 (n : Int), pv]) b4 [.int .i64 (n : Int), pv] := B4.stNA 0 [.int .i64 (n : Int), pv]
  have K5 : Keep (fun q => q = b4) H4 (stNA H4 ⟨b4, 0, none⟩ [.int .i64 (n : Int), pv]) := (Keep.refl _ _).stNA _ (.inl rfl)
  have hsl := hpv.isSl
  have ha4 : all1 #[Value.int .i64 (n : Int), pv] := fun u hu => by
    simp at hu
    rcases hu with rfl | rfl
    · rfl
    · cases u <;> first | rfl | exact hsl.elim
  simp only [go_sem, List.map_cons, List.map_nil, ↓reduceIte, Nat.reduceEqDiff, Nat.reduceAdd, Nat.reduceMul, reduceCtorEq, and_true, true_and, Nat.mul_one, Nat.zero_add, Bool.false_eq_true, decide_true, decide_false, not_false_eq_true, fillV_nil, fillV_cons, okFill_nil, okFill_cons, cells_slice, cells_int, cells_bool, cells_str, cells_ptr, cells_agg, stNH_ptr, okN_ptr, wrA1, wrA20, wrA21, hst4, ← hne]
  refine ⟨ha4, ?_⟩
  rw [kont_eq]
  generalize stNA H4 ⟨b4, 0, none⟩ [.int .i64 (n : Int), pv] = H5 at B5 K5 ⊢
  have K35 : Keep (fun _ => False) H3 H5 := K4.to_old K5 (by omega)
  have K05 := K03.trans K35
  have hT5 := hT.keep K05
  have oo : ∀ {A : Hp}, Keep (fun _ => False) H5 A → OrdO A (.pointer (some ⟨ob, 0, none⟩)) (some (n, R)) := fun K => OrdO.keep0 (o := some (n, R)) ho (K35.trans K)
  have tt : ∀ {A : Hp}, Keep (fun _ => False) H5 A → ROrd A (.agg #[.int .i64 (n : Int), pv]) n R := fun K => ht0.keep0 (K35.trans K)
  have hn : n ≤ 256 := hn
  obtain ⟨M, hM⟩ : ∃ M : Nat, M = min L.length 10 := ⟨_, rfl⟩
  have hMl : M ≤ L.length := by omega
  have emn : (if (10 : Int) < (L.length : Int) then (10 : Int) else (L.length : Int)) = (M : Int) := by split <;> omega
  have hS := hL.takeV (kE_len .i8) hMl
  obtain ⟨va, vc, rfl, hcap⟩ := hL.mk
  obtain ⟨w, hw⟩ : ∃ w, w = slV (.slice va L.length vc) 2 none (some (M : Int)) := ⟨_, rfl⟩
  rw [← hw] at hS
  obtain ⟨L', hL'⟩ : ∃ L', L' = L.take M := ⟨_, rfl⟩
  have hwf' : ∀ p ∈ L', (Lit.int .i8 p.1).wf = true ∧ (Lit.int .i8 p.2).wf = true := fun p hp => hwf p (by rw [hL'] at hp; exact List.mem_of_mem_take hp)
  have hLM : L'.length = M := by rw [hL', List.length_take]; omega
  rw [← hL'] at hS
  have hw' : Value.slice (if vc = 0 then va else Option.map (fun x => x) va) M vc = w := by
    rw [hw, slV_slice]
    simp [loN, hiN, Addr.add]
  simp only [go_sem, List.map_cons, List.map_nil, ↓reduceIte, Nat.reduceEqDiff, Nat.reduceAdd, Nat.reduceMul, reduceCtorEq, and_true, true_and, Nat.mul_one, Nat.zero_add, Bool.false_eq_true, decide_true, decide_false, not_false_eq_true, kont_eq, emn]
  refine ⟨by omega, ?_⟩
  rw [hw']
  have hb4l : b4 < H5.size := B5.lt
  have hpv5 : SlE nE 2 H5 pv (gridP n R) := hpv.keep0 K35
  have s35 := K35.size
  have hne0 : ∀ z, slB pv z → z ≠ b4 := fun z hz e => by have := hpv.old hz; omega
  refine vc_loop [31, 8, 7, 9, 10, 11, 12, 13, 14, 57, 88, 4, 90, 5, 30] rfl (fun m f A => ∃ (i : Nat) (ov pv' : Value) (Rc : Nat → Nat → Bool), i ≤ M ∧ m = M - i ∧ f 30 = .int .i64 (i : Int) ∧ f 5 = ov ∧ OrdV A ov n Rc ∧ Bl A b4 [.int .i64 (n : Int), pv'] ∧ SlE nE 2 A pv' (gridP n Rc) ∧ (∀ z, slB pv' z → z ≠ b4) ∧ Keep (fun z => z = b4) H5 A) M ?_ ?_
  · exact ⟨0, _, pv, R, by omega, by omega, by simp only [go_sem, List.map_cons, List.map_nil, ↓reduceIte, Nat.reduceEqDiff, Nat.reduceAdd, Nat.reduceMul, reduceCtorEq, and_true, true_and, Nat.mul_one, Nat.zero_add, Bool.false_eq_true, decide_true, decide_false, not_false_eq_true, kont_eq]; rfl, by simp only [go_sem, List.map_cons, List.map_nil, ↓reduceIte, Nat.reduceEqDiff, Nat.reduceAdd, Nat.reduceMul, reduceCtorEq, and_true, true_and, Nat.mul_one, Nat.zero_add, Bool.false_eq_true, decide_true, decide_false, not_false_eq_true, kont_eq], ho.keep0 K35, B5, hpv5, hne0, Keep.refl _ _⟩
  rintro m f HI ⟨i, ov, pv', Rc, hi, rfl, hf30, hf5, ho, hB4, hpv', hne', KI⟩
  have sI := KI.size
  simp only [go_sem, List.map_cons, List.map_nil, ↓reduceIte, Nat.reduceEqDiff, Nat.reduceAdd, Nat.reduceMul, reduceCtorEq, and_true, true_and, Nat.mul_one, Nat.zero_add, Bool.false_eq_true, decide_true, decide_false, not_false_eq_true, kont_eq] at hf30 hf5
  have KHI : Keep (fun _ => False) H HI := K05.trans' KI fun z hz e => by have := K03.size; omega
  obtain ⟨ob, rfl⟩ := ptr_of ho
  have hRc : Rng n Rc := ho.2.1
  simp only [go_sem, List.map_cons, List.map_nil, ↓reduceIte, Nat.reduceEqDiff, Nat.reduceAdd, Nat.reduceMul, reduceCtorEq, and_true, true_and, Nat.mul_one, Nat.zero_add, Bool.false_eq_true, decide_true, decide_false, not_false_eq_true, hf30]
  refine iteV_dec (fun hlt => ?_) (fun hge => ?_)
  · have hlt : i < L'.length := by omega
    have pI := hS.keep0 KHI
    obtain ⟨pb, po, pc, hwe, hpq, hld⟩ := pI.elem (kE_len .i8) hlt
    obtain ⟨p, hp⟩ : ∃ p, p = L'[i] := ⟨_, rfl⟩
    rw [← hp] at hld
    have hbd := hwf' p (by rw [hp]; exact List.getElem_mem _)
    have hx8 := wf_i8 hbd.1
    have hy8 := wf_i8 hbd.2
    obtain ⟨x, y⟩ := p
    have hx8 : -128 ≤ x ∧ x ≤ 127 := hx8
    have hy8 : -128 ≤ y ∧ y ≤ 127 := hy8
    have hld' : ldNA HI ⟨pb, po + i * 2, none⟩ 2 = some #[.int .i8 x, .int .i8 y] := hld
    simp only [go_sem, List.map_cons, List.map_nil, ↓reduceIte, Nat.reduceEqDiff, Nat.reduceAdd, Nat.reduceMul, reduceCtorEq, and_true, true_and, Nat.mul_one, Nat.zero_add, Bool.false_eq_true, decide_true, decide_false, not_false_eq_true, fillV_nil, fillV_cons, okFill_nil, okFill_cons, cells_slice, cells_int, cells_bool, cells_str, cells_ptr, cells_agg, stNH_ptr, okN_ptr, wrA1, wrA20, wrA21, hwe, tn_cast, ldNO_ptr, hld', hf30]
    refine ⟨by omega, ?_⟩
    refine kont_new fun G1 b8 e8 z8 B8 G1K => ?_
    have g1s := G1K.size
    have hst8 := B8.okNA (o := 0) (n := 2) (by simp)
    have B9 : Bl (stNA G1 ⟨b8, 0, none⟩ [.int .i8 x, .int .i8 y]) b8 [.int .i8 x, .int .i8 y] := B8.stNA 0 [.int .i8 x, .int .i8 y]
    have G2K : Keep (fun z => z = b8) G1 (stNA G1 ⟨b8, 0, none⟩ [.int .i8 x, .int .i8 y]) := (Keep.refl _ _).stNA _ (.inl rfl)
    have ha1 : all1 #[Value.int .i8 x, Value.int .i8 y] := fun w hw => by simp at hw; rcases hw with rfl | rfl <;> rfl
    simp only [go_sem, List.map_cons, List.map_nil, ↓reduceIte, Nat.reduceEqDiff, Nat.reduceAdd, Nat.reduceMul, reduceCtorEq, and_true, true_and, Nat.mul_one, Nat.zero_add, Bool.false_eq_true, decide_true, decide_false, not_false_eq_true, fillV_nil, fillV_cons, okFill_nil, okFill_cons, cells_slice, cells_int, cells_bool, cells_str, cells_ptr, cells_agg, stNH_ptr, okN_ptr, wrA1, wrA20, wrA21, hst8, hf30]
    refine ⟨ha1, ?_⟩
    rw [kont_eq]
    generalize stNA G1 ⟨b8, 0, none⟩ [.int .i8 x, .int .i8 y] = G2 at B9 G2K ⊢
    have g2s := G2K.size
    have KG : Keep (fun _ => False) HI G2 := G1K.to_old G2K (by omega)
    have cx : cell G2 ⟨b8, 0, none⟩ = some (.int .i8 x) := by rw [B9.cell]; rfl
    have cy : cell G2 ⟨b8, 1, none⟩ = some (.int .i8 y) := by rw [B9.cell]; rfl
    have ix : IntKind.i64.wrap x = x := IntWalk.i64_in _ (by omega)
    have iy : IntKind.i64.wrap y = y := IntWalk.i64_in _ (by omega)
    simp only [go_sem, List.map_cons, List.map_nil, ↓reduceIte, Nat.reduceEqDiff, Nat.reduceAdd, Nat.reduceMul, reduceCtorEq, and_true, true_and, Nat.mul_one, Nat.zero_add, Bool.false_eq_true, decide_true, decide_false, not_false_eq_true, kont_eq, fillV_nil, fillV_cons, okFill_nil, okFill_cons, cells_slice, cells_int, cells_bool, cells_str, cells_ptr, cells_agg, stNH_ptr, okN_ptr, wrA1, wrA20, wrA21, cx, cy, ix, iy, hf5]
    repeat (refine ⟨by omega, ?_⟩)
    refine (e.wt (some (n, Rc)) _ x y G2 (hT.keep (KHI.trans KG)) (OrdO.keep0 (o := some (n, Rc)) ho KG)).mono ?_
    rintro r1 G3 ⟨hr1, KG3, hf1⟩
    have KI3 := KG.trans KG3
    have s3 := KI3.size
    have hB43 := KI3.bl hB4 (by simp)
    have hr1s : ∃ p q, r1 = .tuple #[p, .int .i64 q] := by
      rcases hr1 with ⟨h, _⟩ | ⟨n', R', h1, h2⟩
      · cases h
      · cases h1
        rcases h2 with ⟨_, h⟩ | ⟨_, _, h⟩ | ⟨_, _, h⟩
        · exact ⟨_, _, h⟩
        · exact ⟨_, _, h⟩
        · rcases h with ⟨_, h⟩ | ⟨_, _, h⟩ | ⟨_, _, _, h⟩ | ⟨_, _, _, pv, h, _⟩ <;> exact ⟨_, _, h⟩
    have hr1' := hr1
    obtain ⟨p1, q1, rfl⟩ := hr1s
    rw [kont_eq]
    simp only [go_sem, List.map_cons, List.map_nil, ↓reduceIte, Nat.reduceEqDiff, Nat.reduceAdd, Nat.reduceMul, reduceCtorEq, and_true, true_and, Nat.mul_one, Nat.zero_add, Bool.false_eq_true, decide_true, decide_false, not_false_eq_true, kont_eq, fillV_nil, fillV_cons, okFill_nil, okFill_cons, cells_slice, cells_int, cells_bool, cells_str, cells_ptr, cells_agg, stNH_ptr, okN_ptr, wrA1, wrA20, wrA21, hB43.ldNO 2 rfl]
    refine (e.rw_ n Rc _ x y G3 ⟨hn, hRc, pv', rfl, hpv'.keep0 KI3⟩).mono ?_
    rintro r2 G4 ⟨hr2, hf2, KG4⟩
    have KI4 := KI3.trans KG4
    have s4 := KI4.size
    have mt1 : ∃ (p c d : Value) (q x0 : Int), (Value.tuple #[p1, .int .i64 q1]) = .tuple #[p, .int .i64 q] ∧ r2 = .tuple #[.agg #[c, d], .int .i64 q] ∧ c = .int .i64 x0 ∧ isSl d ∧ MtO HI.size n G4 p (.agg #[c, d]) q := by
      rcases hr1' with ⟨h, _⟩ | ⟨n', R', h1, h2⟩
      · cases h
      · cases h1
        rcases h2 with ⟨h0, h⟩ | ⟨h0, hR0, h⟩ | ⟨h0, hR0, h⟩
        · rcases hr2 with ⟨_, h3⟩ | ⟨k0, _⟩ | ⟨k0, _⟩
          · exact ⟨_, _, _, _, _, h, h3, rfl, trivial, .inl ⟨by omega, rfl⟩⟩
          · rw [inO_ok.2 k0] at h0; cases h0
          · rw [inO_ok.2 k0] at h0; cases h0
        · rcases hr2 with ⟨k0, _⟩ | ⟨_, _, h3⟩ | ⟨_, k1, _⟩
          · exact absurd (inO_ok.1 h0) k0
          · exact ⟨_, _, _, _, _, h, h3, rfl, trivial, .inl ⟨by omega, rfl⟩⟩
          · rw [hR0] at k1; cases k1
        · rcases hr2 with ⟨k0, _⟩ | ⟨_, k1, _⟩ | ⟨_, _, h3⟩
          · exact absurd (inO_ok.1 h0) k0
          · rw [hR0] at k1; cases k1
          · obtain ⟨p, c, d, q, x0, a1, a2, a3, a4, a5⟩ := new_mt h hf1 h3 (fun x pv c h z hz => by have := hf2 x pv c h z hz; have := KG3.size; omega) KG4
            exact ⟨p, c, d, q, x0, a1, a2, a3, a4, a5.mono (by have := KG.size; omega)⟩
    obtain ⟨p, c0, d0, q, x0, hpq1, rfl, rfl, hd0, M4⟩ := mt1
    simp only [Value.tuple.injEq, Array.mk.injEq, List.cons.injEq, Value.int.injEq, true_and, and_true] at hpq1
    obtain ⟨rfl, rfl⟩ := hpq1
    rw [kont_eq]
    simp only [go_sem, List.map_cons, List.map_nil, ↓reduceIte, Nat.reduceEqDiff, Nat.reduceAdd, Nat.reduceMul, reduceCtorEq, and_true, true_and, Nat.mul_one, Nat.zero_add, Bool.false_eq_true, decide_true, decide_false, not_false_eq_true, fillV_nil, fillV_cons, okFill_nil, okFill_cons, cells_slice, cells_int, cells_bool, cells_str, cells_ptr, cells_agg, stNH_ptr, okN_ptr, wrA1, wrA20, wrA21]
    refine kont_new fun G5 b13 e13 z13 B13 KG5 => ?_
    have s5 := KG5.size
    have hst13 := B13.okNA (o := 0) (n := 2) (by simp)
    have B14 : Bl (stNA G5 ⟨b13, 0, none⟩ [.int .i64 x0, d0]) b13 [.int .i64 x0, d0] := B13.stNA 0 [.int .i64 x0, d0]
    have KG6 : Keep (fun z => z = b13) G5 (stNA G5 ⟨b13, 0, none⟩ [.int .i64 x0, d0]) := (Keep.refl _ _).stNA _ (.inl rfl)
    have ha13 : all1 #[Value.int .i64 x0, d0] := fun u hu => by
      simp at hu
      rcases hu with rfl | rfl
      · rfl
      · cases u <;> first | rfl | exact hd0.elim
    simp only [go_sem, List.map_cons, List.map_nil, ↓reduceIte, Nat.reduceEqDiff, Nat.reduceAdd, Nat.reduceMul, reduceCtorEq, and_true, true_and, Nat.mul_one, Nat.zero_add, Bool.false_eq_true, decide_true, decide_false, not_false_eq_true, fillV_nil, fillV_cons, okFill_nil, okFill_cons, cells_slice, cells_int, cells_bool, cells_str, cells_ptr, cells_agg, stNH_ptr, okN_ptr, wrA1, wrA20, wrA21, hst13]
    refine ⟨ha13, ?_⟩
    rw [kont_eq]
    generalize stNA G5 ⟨b13, 0, none⟩ [.int .i64 x0, d0] = G6 at B14 KG6 ⊢
    have K46 : Keep (fun _ => False) G4 G6 := KG5.to_old KG6 (by omega)
    have KI6 := KI4.trans K46
    have M6 := M4.keep K46 (by simp)
    have erem : (i : Int).tmod 2 = ((i % 2 : Nat) : Int) := tmod_nat i 2
    by_cases hodd : i % 2 = 1
    · have e57 : (((i % 2 : Nat) : Int) == 1) = true := by rw [hodd]; rfl
      simp only [go_sem, List.map_cons, List.map_nil, ↓reduceIte, Nat.reduceEqDiff, Nat.reduceAdd, Nat.reduceMul, reduceCtorEq, and_true, true_and, Nat.mul_one, Nat.zero_add, Bool.false_eq_true, decide_true, decide_false, not_false_eq_true, kont_eq, fillV_nil, fillV_cons, okFill_nil, okFill_cons, cells_slice, cells_int, cells_bool, cells_str, cells_ptr, cells_agg, stNH_ptr, okN_ptr, wrA1, wrA20, wrA21, erem, e57, hf5]
      refine ⟨by omega, ?_⟩
      refine (e.wo (some (n, Rc)) _ x y G6 (hT.keep (KHI.trans KI6)) (OrdO.keep0 (o := some (n, Rc)) ho KI6)).mono ?_
      rintro r3 G7 ⟨hr3, KG7, hf3⟩
      have KI7 := KI6.trans KG7
      have s7 := KI7.size
      have hB47 := KI7.bl hB4 (by simp)
      have hr3s : ∃ p q, r3 = .tuple #[p, .int .i64 q] := by
        rcases hr3 with ⟨h, _⟩ | ⟨n', R', h1, h2⟩
        · cases h
        · rcases h2 with ⟨_, h⟩ | ⟨_, pv, h, _⟩
          · exact ⟨_, _, h⟩
          · exact ⟨_, _, h⟩
      have hr3' := hr3
      obtain ⟨p3, q3, rfl⟩ := hr3s
      rw [kont_eq]
      simp only [go_sem, List.map_cons, List.map_nil, ↓reduceIte, Nat.reduceEqDiff, Nat.reduceAdd, Nat.reduceMul, reduceCtorEq, and_true, true_and, Nat.mul_one, Nat.zero_add, Bool.false_eq_true, decide_true, decide_false, not_false_eq_true, kont_eq, fillV_nil, fillV_cons, okFill_nil, okFill_cons, cells_slice, cells_int, cells_bool, cells_str, cells_ptr, cells_agg, stNH_ptr, okN_ptr, wrA1, wrA20, wrA21, hB47.ldNO 2 rfl]
      refine (e.ro n Rc _ x y G7 ⟨hn, hRc, pv', rfl, hpv'.keep0 KI7⟩).mono ?_
      rintro r4 G8 ⟨hr4, hf4, KG8⟩
      have KI8 := KI7.trans KG8
      have s8 := KI8.size
      have mt2 : ∃ (p c d : Value) (q x0 : Int), (Value.tuple #[p3, .int .i64 q3]) = .tuple #[p, .int .i64 q] ∧ r4 = .tuple #[.agg #[c, d], .int .i64 q] ∧ c = .int .i64 x0 ∧ isSl d ∧ MtO G6.size n G8 p (.agg #[c, d]) q := by
        rcases hr3' with ⟨h, _⟩ | ⟨n', R', h1, h2⟩
        · cases h
        · cases h1
          rcases h2 with ⟨h0, h⟩ | ⟨h0, pvx, h, hO⟩
          · rcases hr4 with ⟨_, h3⟩ | ⟨k0, _⟩
            · exact ⟨_, _, _, _, _, h, h3, rfl, trivial, .inl ⟨by omega, rfl⟩⟩
            · exact absurd k0 h0
          · rcases hr4 with ⟨k0, _⟩ | ⟨_, v4, h3, h4⟩
            · exact absurd h0 k0
            · have h40 := h4
              obtain ⟨_, _, pv4, rfl, hS4⟩ := h4
              refine ⟨_, _, _, _, _, h, h3, rfl, hS4.isSl, .inr ⟨rfl, _, hO.keep0 KG8, (hf3 _ _ h).keep hO KG8 (by simp), h40, fun x pv'' e z hz => ?_⟩⟩
              simp only [Value.agg.injEq, Array.mk.injEq, List.cons.injEq, and_true] at e
              have := hf4 _ _ _ h3 z (by rw [e.2]; exact hz)
              have := KG7.size
              omega
      obtain ⟨p', c1, d1, q', x1, hpq3, rfl, rfl, hd1, M8⟩ := mt2
      simp only [Value.tuple.injEq, Array.mk.injEq, List.cons.injEq, Value.int.injEq, true_and, and_true] at hpq3
      obtain ⟨rfl, rfl⟩ := hpq3
      have b13l : b13 < G6.size := B14.lt
      have B148 := (KG7.trans KG8).bl B14 (by simp)
      have hst14 := B148.okNA (o := 0) (n := 2) (by simp)
      have B15 : Bl (stNA G8 ⟨b13, 0, none⟩ [.int .i64 x1, d1]) b13 [.int .i64 x1, d1] := B148.stNA 0 [.int .i64 x1, d1]
      have KG9 : Keep (fun z => z = b13) G8 (stNA G8 ⟨b13, 0, none⟩ [.int .i64 x1, d1]) := (Keep.refl _ _).stNA _ (.inl rfl)
      have ha15 : all1 #[Value.int .i64 x1, d1] := fun u hu => by
        simp at hu
        rcases hu with rfl | rfl
        · rfl
        · cases u <;> first | rfl | exact hd1.elim
      have M9 := (M8.keep KG9 (fun z hz e => by omega)).mono (by have := KI6.size; omega : HI.size ≤ G6.size)
      rw [kont_eq]
      simp only [go_sem, List.map_cons, List.map_nil, ↓reduceIte, Nat.reduceEqDiff, Nat.reduceAdd, Nat.reduceMul, reduceCtorEq, and_true, true_and, Nat.mul_one, Nat.zero_add, Bool.false_eq_true, decide_true, decide_false, not_false_eq_true, kont_eq, fillV_nil, fillV_cons, okFill_nil, okFill_cons, cells_slice, cells_int, cells_bool, cells_str, cells_ptr, cells_agg, stNH_ptr, okN_ptr, wrA1, wrA20, wrA21, hst14]
      refine ⟨ha15, ?_⟩
      generalize stNA G8 ⟨b13, 0, none⟩ [.int .i64 x1, d1] = G9 at B15 KG9 M9 ⊢
      have KI9 : Keep (fun _ => False) HI G9 := KI8.trans' KG9 fun z hz e => by omega
      have toA := ho.keep0 KI9
      have bA := KI9.bl hB4 (by simp)
      have tA : ROrd G9 (.agg #[.int .i64 (n : Int), pv']) n Rc := ⟨hn, hRc, pv', rfl, hpv'.keep0 KI9⟩
      have es : ((q3 : Int) != q3) = false := by simp
      simp only [go_sem, List.map_cons, List.map_nil, ↓reduceIte, Nat.reduceEqDiff, Nat.reduceAdd, Nat.reduceMul, reduceCtorEq, and_true, true_and, Nat.mul_one, Nat.zero_add, Bool.false_eq_true, decide_true, decide_false, not_false_eq_true, kont_eq, fillV_nil, fillV_cons, okFill_nil, okFill_cons, cells_slice, cells_int, cells_bool, cells_str, cells_ptr, cells_agg, stNH_ptr, okN_ptr, wrA1, wrA20, wrA21, es, hf5, bA.ldNO 2 rfl]
      refine (c.is n Rc _ _ G9 (hT.keep (KHI.trans KI9)) toA tA).mono ?_
      rintro z HZ ⟨rfl, KZ⟩
      have KIZ := KI9.trans KZ
      have MZ := M9.keep KZ (by simp)
      have bZ := KZ.bl bA (by simp)
      have b13Z := KZ.bl B15 (by simp)
      rw [kont_eq]
      rcases MZ with ⟨hq0, hp0⟩ | ⟨hq0, R', hO', hfO', hRR', hfo'⟩
      · have e1 : ((q3 : Int) != 0) = true := by simp [hq0]
        have e2 : ((q3 : Int) == 0) = false := by simp [hq0]
        simp (disch := omega) only [go_sem, List.map_cons, List.map_nil, ↓reduceIte, Nat.reduceEqDiff, Nat.reduceAdd, Nat.reduceMul, reduceCtorEq, and_true, true_and, Nat.mul_one, Nat.zero_add, Bool.false_eq_true, decide_true, decide_false, not_false_eq_true, kont_eq, fillV_nil, fillV_cons, okFill_nil, okFill_cons, cells_slice, cells_int, cells_bool, cells_str, cells_ptr, cells_agg, stNH_ptr, okN_ptr, wrA1, wrA20, wrA21, e1, e2, hf30, hf5, hp0, Bool.not_true, IntWalk.i64_in]
        exact ⟨M - (i + 1), by omega, i + 1, _, pv', Rc, by omega, rfl, rfl, rfl, ho.keep0 KIZ, bZ, hpv'.keep0 KIZ, hne', KI.trans KIZ.any⟩
      · have e1 : ((q3 : Int) != 0) = false := by rw [hq0]; rfl
        have e2 : ((q3 : Int) == 0) = true := by rw [hq0]; rfl
        obtain ⟨_, hRR2, pv2, hpv2, hS2⟩ := hRR'
        simp only [Value.agg.injEq, Array.mk.injEq, List.cons.injEq, and_true] at hpv2
        obtain ⟨hxn, hdp⟩ := hpv2
        rw [hxn, hdp] at b13Z
        have hfd : ∀ z, slB pv2 z → HI.size ≤ z := fun z hz => hfo' _ _ rfl z (by rw [hdp]; exact hz)
        have hslp := hS2.isSl
        have hst := bZ.okNA (o := 0) (n := 2) (by simp)
        have ha9 : all1 #[Value.int .i64 (n : Int), pv2] := fun u hu => by
          simp at hu
          rcases hu with rfl | rfl
          · rfl
          · cases u <;> first | rfl | exact hslp.elim
        have b4Z : Bl (stNA HZ ⟨b4, 0, none⟩ [.int .i64 (n : Int), pv2]) b4 [.int .i64 (n : Int), pv2] := bZ.stNA 0 [.int .i64 (n : Int), pv2]
        have K9 : Keep (fun z => z = b4) HZ (stNA HZ ⟨b4, 0, none⟩ [.int .i64 (n : Int), pv2]) := (Keep.refl _ _).stNA _ (.inl rfl)
        have hb4 : b4 < HI.size := hB4.lt
        simp (disch := omega) only [go_sem, List.map_cons, List.map_nil, ↓reduceIte, Nat.reduceEqDiff, Nat.reduceAdd, Nat.reduceMul, reduceCtorEq, and_true, true_and, Nat.mul_one, Nat.zero_add, Bool.false_eq_true, decide_true, decide_false, not_false_eq_true, kont_eq, fillV_nil, fillV_cons, okFill_nil, okFill_cons, cells_slice, cells_int, cells_bool, cells_str, cells_ptr, cells_agg, stNH_ptr, okN_ptr, wrA1, wrA20, wrA21, e1, e2, hf30, b13Z.ldNO 2 rfl, hst, Bool.not_true, IntWalk.i64_in]
        exact ⟨ha9, M - (i + 1), by omega, i + 1, _, pv2, R', by omega, rfl, rfl, rfl, hO'.keepF hfO' K9 (fun z hz _ e => by omega), b4Z, hS2.keep K9 (fun z hz e => by have := hfd z hz; omega), fun z hz e => by have := hfd z hz; omega, (KI.trans KIZ.any).trans K9⟩
    · have e57 : (((i % 2 : Nat) : Int) == 1) = false := by simp only [beq_eq_false_iff_ne, ne_eq]; omega
      simp only [go_sem, List.map_cons, List.map_nil, ↓reduceIte, Nat.reduceEqDiff, Nat.reduceAdd, Nat.reduceMul, reduceCtorEq, and_true, true_and, Nat.mul_one, Nat.zero_add, Bool.false_eq_true, decide_true, decide_false, not_false_eq_true, kont_eq, fillV_nil, fillV_cons, okFill_nil, okFill_cons, cells_slice, cells_int, cells_bool, cells_str, cells_ptr, cells_agg, stNH_ptr, okN_ptr, wrA1, wrA20, wrA21, erem, e57, hf5]
      refine ⟨by omega, ?_⟩
      have toA := ho.keep0 KI6
      have bA := KI6.bl hB4 (by simp)
      have tA : ROrd G6 (.agg #[.int .i64 (n : Int), pv']) n Rc := ⟨hn, hRc, pv', rfl, hpv'.keep0 KI6⟩
      have es : ((q1 : Int) != q1) = false := by simp
      simp only [go_sem, List.map_cons, List.map_nil, ↓reduceIte, Nat.reduceEqDiff, Nat.reduceAdd, Nat.reduceMul, reduceCtorEq, and_true, true_and, Nat.mul_one, Nat.zero_add, Bool.false_eq_true, decide_true, decide_false, not_false_eq_true, kont_eq, fillV_nil, fillV_cons, okFill_nil, okFill_cons, cells_slice, cells_int, cells_bool, cells_str, cells_ptr, cells_agg, stNH_ptr, okN_ptr, wrA1, wrA20, wrA21, es, hf5, bA.ldNO 2 rfl]
      refine (c.is n Rc _ _ G6 (hT.keep (KHI.trans KI6)) toA tA).mono ?_
      rintro z HZ ⟨rfl, KZ⟩
      have KIZ := KI6.trans KZ
      have MZ := M6.keep KZ (by simp)
      have bZ := KZ.bl bA (by simp)
      have b13Z := KZ.bl B14 (by simp)
      rw [kont_eq]
      rcases MZ with ⟨hq0, hp0⟩ | ⟨hq0, R', hO', hfO', hRR', hfo'⟩
      · have e1 : ((q1 : Int) != 0) = true := by simp [hq0]
        have e2 : ((q1 : Int) == 0) = false := by simp [hq0]
        simp (disch := omega) only [go_sem, List.map_cons, List.map_nil, ↓reduceIte, Nat.reduceEqDiff, Nat.reduceAdd, Nat.reduceMul, reduceCtorEq, and_true, true_and, Nat.mul_one, Nat.zero_add, Bool.false_eq_true, decide_true, decide_false, not_false_eq_true, kont_eq, fillV_nil, fillV_cons, okFill_nil, okFill_cons, cells_slice, cells_int, cells_bool, cells_str, cells_ptr, cells_agg, stNH_ptr, okN_ptr, wrA1, wrA20, wrA21, e1, e2, hf30, hf5, hp0, Bool.not_true, IntWalk.i64_in]
        exact ⟨M - (i + 1), by omega, i + 1, _, pv', Rc, by omega, rfl, rfl, rfl, ho.keep0 KIZ, bZ, hpv'.keep0 KIZ, hne', KI.trans KIZ.any⟩
      · have e1 : ((q1 : Int) != 0) = false := by rw [hq0]; rfl
        have e2 : ((q1 : Int) == 0) = true := by rw [hq0]; rfl
        obtain ⟨_, hRR2, pv2, hpv2, hS2⟩ := hRR'
        simp only [Value.agg.injEq, Array.mk.injEq, List.cons.injEq, and_true] at hpv2
        obtain ⟨hxn, hdp⟩ := hpv2
        rw [hxn, hdp] at b13Z
        have hfd : ∀ z, slB pv2 z → HI.size ≤ z := fun z hz => hfo' _ _ rfl z (by rw [hdp]; exact hz)
        have hslp := hS2.isSl
        have hst := bZ.okNA (o := 0) (n := 2) (by simp)
        have ha9 : all1 #[Value.int .i64 (n : Int), pv2] := fun u hu => by
          simp at hu
          rcases hu with rfl | rfl
          · rfl
          · cases u <;> first | rfl | exact hslp.elim
        have b4Z : Bl (stNA HZ ⟨b4, 0, none⟩ [.int .i64 (n : Int), pv2]) b4 [.int .i64 (n : Int), pv2] := bZ.stNA 0 [.int .i64 (n : Int), pv2]
        have K9 : Keep (fun z => z = b4) HZ (stNA HZ ⟨b4, 0, none⟩ [.int .i64 (n : Int), pv2]) := (Keep.refl _ _).stNA _ (.inl rfl)
        have hb4 : b4 < HI.size := hB4.lt
        simp (disch := omega) only [go_sem, List.map_cons, List.map_nil, ↓reduceIte, Nat.reduceEqDiff, Nat.reduceAdd, Nat.reduceMul, reduceCtorEq, and_true, true_and, Nat.mul_one, Nat.zero_add, Bool.false_eq_true, decide_true, decide_false, not_false_eq_true, kont_eq, fillV_nil, fillV_cons, okFill_nil, okFill_cons, cells_slice, cells_int, cells_bool, cells_str, cells_ptr, cells_agg, stNH_ptr, okN_ptr, wrA1, wrA20, wrA21, e1, e2, hf30, b13Z.ldNO 2 rfl, hst, Bool.not_true, IntWalk.i64_in]
        exact ⟨ha9, M - (i + 1), by omega, i + 1, _, pv2, R', by omega, rfl, rfl, rfl, hO'.keepF hfO' K9 (fun z hz _ e => by omega), b4Z, hS2.keep K9 (fun z hz e => by have := hfd z hz; omega), fun z hz e => by have := hfd z hz; omega, (KI.trans KIZ.any).trans K9⟩
  · have hie : i = M := by omega
    simp only [go_sem, List.map_cons, List.map_nil, ↓reduceIte, Nat.reduceEqDiff, Nat.reduceAdd, Nat.reduceMul, reduceCtorEq, and_true, true_and, Nat.mul_one, Nat.zero_add, Bool.false_eq_true, decide_true, decide_false, not_false_eq_true, kont_eq, hf5, hB4.ldNO 2 rfl]
    refine (c.is n Rc _ _ HI (hT.keep KHI) ho ⟨hn, hRc, pv', rfl, hpv'⟩).mono ?_
    rintro z HZ ⟨rfl, KZ⟩
    rw [kont_eq]
    simp only [go_sem, List.map_cons, List.map_nil, ↓reduceIte, Nat.reduceEqDiff, Nat.reduceAdd, Nat.reduceMul, reduceCtorEq, and_true, true_and, Nat.mul_one, Nat.zero_add, Bool.false_eq_true, decide_true, decide_false, not_false_eq_true, kont_eq, fillV_nil, fillV_cons, okFill_nil, okFill_cons, cells_slice, cells_int, cells_bool, cells_str, cells_ptr, cells_agg, stNH_ptr, okN_ptr, wrA1, wrA20, wrA21]
    rw [hQ]
    exact ⟨rfl, KHI.trans KZ⟩
end Go.Mg
