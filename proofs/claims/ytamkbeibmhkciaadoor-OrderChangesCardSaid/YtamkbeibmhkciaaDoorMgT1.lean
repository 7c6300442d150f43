/- Several texts of ours in one. No conditions. -/
import Derived.Test.YtamkbeibmhkciaaDoorMgR9
namespace Go.Mg
open Go Go.RowKit
set_option linter.unusedSimpArgs false
set_option linter.unusedVariables false
set_option maxRecDepth 100000
/- arbacref06.Size -/
def c_rsize (ι : Ids) : S :=
  .seq (.reg [.e (.v 1) (.box (ι.t 263) (.v 0)), .p (.v 2) (.mv (.c (.int .i64 0)))]) (.seq (.reg [.p (.t 3) (.fa 0 (.v 1)), .p (.t 4) (.ld (.t 3)), .p (.t 5) (.dv .rem .u8 (.t 4) (.c (.int .u8 8))), .p
  (.t 6) (.ii .i64 (.t 5)), .p (.v 2) (.mv (.t 6))]) .ret)
def r_rsize : List RV := [.t 2]
/- arbacref06.key -/
def c_rkey (ι : Ids) : S :=
  .seq (.reg [.e (.v 2) (.box (ι.t 263) (.v 0)), .p (.v 4) (.mv (.c (.int .i64 0)))]) (.seq (.reg [.p (.t 5) (.mv (.v 1)), .p (.t 6) (.fa 1 (.v 2)), .p (.t 7) (.ld (.t 6)), .p (.t 8) (.dv .rem .u8 (.t
  7) (.c (.int .u8 10))), .p (.t 9) (.ii .i64 (.t 8)), .p (.t 10) (.ar .add .i64 (.c (.int .i64 1)) (.t 9)), .p (.t 11) (.ar .mul .i64 (.t 5) (.t 10)), .p (.t 12) (.fa 2 (.v 2)), .p (.t 13) (.ld (.t
  12)), .p (.t 14) (.ii .i64 (.t 13)), .p (.t 15) (.ar .add .i64 (.t 11) (.t 14)), .p (.t 16) (.dv .rem .i64 (.t 15) (.c (.int .i64 11))), .p (.v 4) (.mv (.t 16))]) .ret)
def r_rkey : List RV := [.t 4]
/- arbacref06.Fit -/
def c_rfit (ι : Ids) : S :=
  .seq (.reg [.e (.v 1) (.box (ι.t 263) (.v 0)), .p (.v 2) (.mv (.c (.slice .none 0 0)))]) (.seq (.reg [.p (.v 3) (.mv (.c (.slice .none 0 0)))]) (.seq (.reg [.p (.t 9) (.m (.ldn 4 (.v 1))), .e (.t 10)
  (.call (ι.f 264) [.t 9]), .p (.v 4) (.mv (.t 10))]) (.seq (.seq (.reg [.p (.t 11) (.fa 3 (.v 1)), .p (.v 12) (.ld (.t 11)), .p (.v 13) (.m (.lenl (.v 12))), .p (.v 14) (.mv (.c (.int .i64 0)))]) (.blk
  0 (.loop (.seq (.reg [.p (.v 15) (.cm .lss .i64 (.v 14) (.v 13))]) (.seq (.ite (.v 15) .skip (.exit 0)) (.seq (.blk 1 (.seq (.reg [.p (.t 16) (.mv (.v 14)), .p (.t 17) (.is 2 (.v 12) (.v 14)), .p (.t
  18) (.m (.ldn 2 (.t 17))), .e (.v 6) (.new (ι.t 49) #[.int .u8 0, .int .u8 0]), .p (.v 5) (.mv (.t 16)), .e .no (.stn 2 (.v 6) (.t 18))]) (.seq (.seq (.reg [.p (.t 19) (.mv (.v 5)), .p (.t 20) (.cm
  .eql .i64 (.t 19) (.c (.int .i64 12))), .p (.t 21) (.mv (.t 20)), .gp (.t 22) (.t 21) false (.mv (.v 4)), .gp (.t 23) (.t 21) false (.cm .eql .i64 (.t 22) (.c (.int .i64 0))), .p (.v 24) (.pick (.t
  21) (.c (.bool true)) (.t 23))]) (.ite (.v 24) (.exit 0) .skip)) (.seq (.reg [.p (.t 25) (.ia 2 1 (.v 6) (.c (.int .i64 0))), .p (.t 26) (.ld (.t 25)), .p (.t 27) (.ii .i64 (.t 26)), .p (.t 28) (.mv
  (.v 4)), .p (.t 29) (.dv .rem .i64 (.t 27) (.t 28)), .p (.t 30) (.ia 2 1 (.v 6) (.c (.int .i64 1))), .p (.t 31) (.ld (.t 30)), .p (.t 32) (.ii .i64 (.t 31)), .p (.t 33) (.mv (.v 4)), .p (.t 34) (.dv
  .rem .i64 (.t 32) (.t 33)), .p (.v 7) (.mv (.t 29)), .p (.v 8) (.mv (.t 34))]) (.seq (.seq (.reg [.p (.t 35) (.mv (.v 7)), .p (.t 36) (.mv (.v 8)), .p (.v 37) (.cm .eql .i64 (.t 35) (.t 36))]) (.ite
  (.v 37) (.exit 1) .skip)) (.seq (.seq (.dr (.px (.t 38) .none (.m (.ldn 4 (.v 1))) (.px (.t 39) .none (.mv (.v 7)) (.px (.t 41) .none (.m (.ldn 4 (.v 1))) (.px (.t 42) .none (.mv (.v 8)) (.wcons (.t
  40) .none (.call (ι.f 265) [.t 38, .t 39]) (.wcons (.t 43) .none (.call (ι.f 265) [.t 41, .t 42]) (.px (.v 44) .none (.cm .gtr .i64 (.t 40) (.t 43)) .done) .wnil) .wnil)))))) (.ite (.v 44) (.reg [.p
  (.t 45) (.mv (.v 8)), .p (.t 46) (.mv (.v 7)), .p (.v 7) (.mv (.t 45)), .p (.v 8) (.mv (.t 46))]) .skip)) (.reg [.p (.t 47) (.mv (.v 3)), .p (.t 48) (.mv (.v 7)), .p (.t 49) (.mv (.v 8)), .p (.t 50)
  (.m (.bld #[.int .i64 0, .int .i64 0] [(0, (1, .t 48)), (1, (1, .t 49))])), .e (.t 51) (.bldF (ι.t 194) 2 1 [.t 50]), .e (.t 52) (.app false (ι.t 194) 2 16 #[.int .i64 0, .int .i64 0] (.t 47) (.t
  51)), .p (.v 3) (.mv (.t 52))]))))))) (.reg [.p (.t 53) (.ar .add .i64 (.v 14) (.c (.int .i64 1))), .p (.v 14) (.mv (.t 53))]))))))) (.seq (.reg [.p (.t 54) (.mv (.v 3)), .p (.v 2) (.mv (.t 54))])
  .ret))))
def r_rfit : List RV := [.t 2]

theorem tmod_nat (a b : Nat) : (a : Int).tmod (b : Int) = ((a % b : Nat) : Int) := (Int.ofNat_tmod a b).symm
structure RawN where
  N : Nat
  T : Nat
  A : Nat
  ps : List NP
  hN : N < 256
  hT : T < 256
  hA : A < 256
  hp : ∀ p ∈ ps, p.1 < 256 ∧ p.2 < 256
def bE (p : NP) : List Value := [.int .u8 (p.1 : Int), .int .u8 (p.2 : Int)]
theorem bE_len (p : NP) : (bE p).length = 2 := rfl
def szR (r : RawN) : Nat := r.N % 8
def keyR (r : RawN) (x : Nat) : Nat := (x * (1 + r.T % 10) + r.A) % 11
def fitP (r : RawN) (p : NP) : List NP :=
  if p.1 % szR r = p.2 % szR r then [] else if keyR r (p.2 % szR r) < keyR r (p.1 % szR r) then [(p.2 % szR r, p.1 % szR r)] else [(p.1 % szR r, p.2 % szR r)]
def fitL (r : RawN) : List NP := if szR r = 0 then [] else (r.ps.take 12).flatMap (fitP r)
def RawV (H : Hp) (v : Value) (r : RawN) : Prop := ∃ pv, v = .agg #[.int .u8 (r.N : Int), .int .u8 (r.T : Int), .int .u8 (r.A : Int), pv] ∧ SlE bE 2 H pv r.ps ∧ r.ps.length ≤ maxLen
theorem RawV.keep0 {H H' : Hp} {v : Value} {r : RawN} (h : RawV H v r) (hk : Keep (fun _ => False) H H') : RawV H' v r := by
  obtain ⟨pv, rfl, h1, h2⟩ := h
  exact ⟨pv, rfl, h1.keep0 hk, h2⟩
def RSizeSpec (P : Program) (k : FuncId) : Prop := ∀ (r : RawN) (v : Value) (H : Hp), RawV H v r → CallsM P k #[v] H fun x H' => x = .int .i64 (szR r : Int) ∧ Keep (fun _ => False) H H'
theorem rsize_ok {P : Program} {ι : Ids} {k : FuncId} (hk : FnIs P k (c_rsize ι) r_rsize 1) : RSizeSpec P k := by
  intro r v H hv
  obtain ⟨pv, rfl, hp, hl⟩ := hv
  refine calls_of_vc hk (args := [_]) (by simp) ?_
  unfold c_rsize r_rsize
  simp only [go_sem, List.map_cons, List.map_nil, ↓reduceIte, Nat.reduceEqDiff, Nat.reduceAdd, Nat.reduceMul, reduceCtorEq, and_true, true_and, Nat.mul_one, Nat.zero_add, Bool.false_eq_true, decide_true, decide_false, not_false_eq_true]
  refine kont_new fun H1 b1 e1 z1 B1 K1 => ?_
  have B1' : Bl H1 b1 [.int .u8 (r.N : Int), .int .u8 (r.T : Int), .int .u8 (r.A : Int), pv] := B1
  have c0 : cell H1 ⟨b1, 0, none⟩ = some (.int .u8 (r.N : Int)) := by rw [B1'.cell]; rfl
  simp only [go_sem, List.map_cons, List.map_nil, ↓reduceIte, Nat.reduceEqDiff, Nat.reduceAdd, Nat.reduceMul, reduceCtorEq, and_true, true_and, Nat.mul_one, Nat.zero_add, Bool.false_eq_true, decide_true, decide_false, not_false_eq_true, kont_eq, fillV_nil, fillV_cons, okFill_nil, okFill_cons, cells_slice, cells_int, cells_bool, cells_str, cells_ptr, cells_agg, stNH_ptr, okN_ptr, wrA1, wrA20, wrA21, c0]
  have e : (r.N : Int).tmod 8 = ((r.N % 8 : Nat) : Int) := tmod_nat r.N 8
  rw [e, IntWalk.i64_in _ (by omega)]
  exact ⟨by omega, rfl, K1⟩
def RKeySpec (P : Program) (k : FuncId) : Prop := ∀ (r : RawN) (v : Value) (x : Nat) (H : Hp), RawV H v r → x < 8 → CallsM P k #[v, .int .i64 x] H fun y H' => y = .int .i64 (keyR r x : Int) ∧ Keep (fun _ => False) H H'
theorem rkey_ok {P : Program} {ι : Ids} {k : FuncId} (hk : FnIs P k (c_rkey ι) r_rkey 2) : RKeySpec P k := by
  intro r v x H hv hx
  obtain ⟨pv, rfl, hp, hl⟩ := hv
  refine calls_of_vc hk (args := [_, _]) (by simp) ?_
  unfold c_rkey r_rkey
  simp only [go_sem, List.map_cons, List.map_nil, ↓reduceIte, Nat.reduceEqDiff, Nat.reduceAdd, Nat.reduceMul, reduceCtorEq, and_true, true_and, Nat.mul_one, Nat.zero_add, Bool.false_eq_true, decide_true, decide_false, not_false_eq_true]
  refine kont_new fun H1 b1 e1 z1 B1 K1 => ?_
  have B1' : Bl H1 b1 [.int .u8 (r.N : Int), .int .u8 (r.T : Int), .int .u8 (r.A : Int), pv] := B1
  have c1 : cell H1 ⟨b1, 1, none⟩ = some (.int .u8 (r.T : Int)) := by rw [B1'.cell]; rfl
  have c2 : cell H1 ⟨b1, 2, none⟩ = some (.int .u8 (r.A : Int)) := by rw [B1'.cell]; rfl
  simp only [go_sem, List.map_cons, List.map_nil, ↓reduceIte, Nat.reduceEqDiff, Nat.reduceAdd, Nat.reduceMul, reduceCtorEq, and_true, true_and, Nat.mul_one, Nat.zero_add, Bool.false_eq_true, decide_true, decide_false, not_false_eq_true, kont_eq, fillV_nil, fillV_cons, okFill_nil, okFill_cons, cells_slice, cells_int, cells_bool, cells_str, cells_ptr, cells_agg, stNH_ptr, okN_ptr, wrA1, wrA20, wrA21, c1, c2]
  have e : (r.T : Int).tmod 10 = ((r.T % 10 : Nat) : Int) := tmod_nat r.T 10
  have hT : r.T % 10 < 10 := Nat.mod_lt _ (by omega)
  have hA := r.hA
  have hm : x * (1 + r.T % 10) ≤ 8 * 11 := Nat.mul_le_mul (by omega) (by omega)
  rw [e, IntWalk.i64_in ((r.T % 10 : Nat) : Int) (by omega), IntWalk.i64_in (1 + ((r.T % 10 : Nat) : Int)) (by omega), IntWalk.i64_in (r.A : Int) (by omega)]
  have e2 : (x : Int) * (1 + ((r.T % 10 : Nat) : Int)) = ((x * (1 + r.T % 10) : Nat) : Int) := by push_cast; rfl
  rw [e2, IntWalk.i64_in ((x * (1 + r.T % 10) : Nat) : Int) (by omega), IntWalk.i64_in _ (by omega)]
  have e3 : ((x * (1 + r.T % 10) : Nat) : Int) + (r.A : Int) = ((x * (1 + r.T % 10) + r.A : Nat) : Int) := by push_cast; rfl
  rw [e3, show (11 : Int) = ((11 : Nat) : Int) from rfl, tmod_nat]
  exact ⟨by omega, by omega, rfl, K1⟩
theorem bE_at {H : Hp} {b o n c : Nat} {l : List NP} {i : Nat} (hi : i < l.length) (h : ldNA H ⟨b, o + i * 2, none⟩ 2 = some (bE l[i]).toArray) : ldNA H ⟨b, o + i * 2, none⟩ 2 = some #[.int .u8 ((at0 l i).1 : Int), .int .u8 ((at0 l i).2 : Int)] := by rw [h, at0_eq hi]; rfl
theorem fit_succ {r : RawN} {i : Nat} (h : i < r.ps.length) : (r.ps.take (i + 1)).flatMap (fitP r) = (r.ps.take i).flatMap (fitP r) ++ fitP r (at0 r.ps i) := by
  rw [List.take_succ_eq_append_getElem h, List.flatMap_append, at0_eq h]; simp
theorem fitP_len (r : RawN) (p : NP) : (fitP r p).length ≤ 1 := by
  unfold fitP
  split
  · simp
  · split <;> simp
theorem fit_len (r : RawN) : ∀ l : List NP, (l.flatMap (fitP r)).length ≤ l.length
  | [] => by simp
  | p :: l => by
    rw [List.flatMap_cons, List.length_append, List.length_cons]
    have := fitP_len r p
    have := fit_len r l
    omega
def RFitSpec (P : Program) (k : FuncId) : Prop := ∀ (r : RawN) (v : Value) (H : Hp), RawV H v r → CallsM P k #[v] H fun x H' => OwE nE 2 H' x (fitL r) ∧ (∀ q, ownB x q → H.size ≤ q) ∧ Keep (fun _ => False) H H'
theorem rfit_ok {P : Program} {ι : Ids} {k : FuncId} (hk : FnIs P k (c_rfit ι) r_rfit 1) (hs : RSizeSpec P (ι.f 264)) (hy : RKeySpec P (ι.f 265)) : RFitSpec P k := by
  intro r v H hv
  have hv0 := hv
  obtain ⟨pv, rfl, hp, hl⟩ := hv
  obtain ⟨Q, hQ⟩ : ∃ Q : Value → Hp → Prop, Q = fun x H' => OwE nE 2 H' x (fitL r) ∧ (∀ q, ownB x q → H.size ≤ q) ∧ Keep (fun _ => False) H H' := ⟨_, rfl⟩
  rw [← hQ]
  refine calls_of_vc hk (args := [_]) (by simp) ?_
  unfold c_rfit r_rfit
  simp only [go_sem, List.map_cons, List.map_nil, ↓reduceIte, Nat.reduceEqDiff, Nat.reduceAdd, Nat.reduceMul, reduceCtorEq, and_true, true_and, Nat.mul_one, Nat.zero_add, Bool.false_eq_true, decide_true, decide_false, not_false_eq_true]
  refine kont_new fun H1 b1 e1 z1 B1 K1 => ?_
  have s1 := K1.size
  have B1' : Bl H1 b1 [.int .u8 (r.N : Int), .int .u8 (r.T : Int), .int .u8 (r.A : Int), pv] := B1
  simp only [go_sem, List.map_cons, List.map_nil, ↓reduceIte, Nat.reduceEqDiff, Nat.reduceAdd, Nat.reduceMul, reduceCtorEq, and_true, true_and, Nat.mul_one, Nat.zero_add, Bool.false_eq_true, decide_true, decide_false, not_false_eq_true, kont_eq, B1'.ldNO 4 rfl]
  refine (hs r _ H1 (hv0.keep0 K1)).mono ?_
  rintro x H2 ⟨rfl, K2⟩
  have s2 := K2.size
  have B2 := K2.bl B1' (by simp)
  have p2 := (hp.keep0 K1).keep0 K2
  have c23 : cell H2 ⟨b1, 3, none⟩ = some pv := by rw [B2.cell]; rfl
  rw [kont_eq]
  simp only [go_sem, List.map_cons, List.map_nil, ↓reduceIte, Nat.reduceEqDiff, Nat.reduceAdd, Nat.reduceMul, reduceCtorEq, and_true, true_and, Nat.mul_one, Nat.zero_add, Bool.false_eq_true, decide_true, decide_false, not_false_eq_true, kont_eq, c23, p2.isSl, p2.lenS, p2.len]
  have hsz : szR r < 8 := Nat.mod_lt _ (by omega)
  refine vc_loop [15, 6, 5, 24, 7, 8, 37, 44, 3, 14] rfl (fun m g A => ∃ (i : Nat) (w : Value), i ≤ r.ps.length ∧ i ≤ 12 ∧ (i ≠ 0 → szR r ≠ 0) ∧ m = r.ps.length - i ∧ g 14 = .int .i64 (i : Int) ∧ g 3 = w ∧ OwE nE 2 A w ((r.ps.take i).flatMap (fitP r)) ∧ (∀ q, ownB w q → H2.size ≤ q) ∧ Keep (fun _ => False) H2 A) r.ps.length ?_ ?_
  · exact ⟨0, _, by omega, by omega, fun h => absurd rfl h, by omega, by simp only [go_sem, List.map_cons, List.map_nil, ↓reduceIte, Nat.reduceEqDiff, Nat.reduceAdd, Nat.reduceMul, reduceCtorEq, and_true, true_and, Nat.mul_one, Nat.zero_add, Bool.false_eq_true, decide_true, decide_false, not_false_eq_true, kont_eq]; rfl, by simp only [go_sem, List.map_cons, List.map_nil, ↓reduceIte, Nat.reduceEqDiff, Nat.reduceAdd, Nat.reduceMul, reduceCtorEq, and_true, true_and, Nat.mul_one, Nat.zero_add, Bool.false_eq_true, decide_true, decide_false, not_false_eq_true, kont_eq], OwE.nil _, fun q h => h.elim, Keep.refl _ _⟩
  rintro m g H3 ⟨i, w, hi, hi12, hi0, rfl, hg14, hg3, O3, w3, K3⟩
  have s3 := K3.size
  simp only [go_sem, List.map_cons, List.map_nil, ↓reduceIte, Nat.reduceEqDiff, Nat.reduceAdd, Nat.reduceMul, reduceCtorEq, and_true, true_and, Nat.mul_one, Nat.zero_add, Bool.false_eq_true, decide_true, decide_false, not_false_eq_true, kont_eq] at hg14 hg3
  have hfl := fit_len r (r.ps.take i)
  rw [List.length_take] at hfl
  simp only [go_sem, List.map_cons, List.map_nil, ↓reduceIte, Nat.reduceEqDiff, Nat.reduceAdd, Nat.reduceMul, reduceCtorEq, and_true, true_and, Nat.mul_one, Nat.zero_add, Bool.false_eq_true, decide_true, decide_false, not_false_eq_true, hg14]
  refine iteV_dec (fun hlt => ?_) (fun hge => ?_)
  · have hlt : i < r.ps.length := by omega
    have p3 := p2.keep0 K3
    obtain ⟨pb, po, pc, rfl, hpq, hld⟩ := p3.elem bE_len hlt
    have hld' := bE_at (n := 0) (c := 0) hlt hld
    have hmem : at0 r.ps i ∈ r.ps := by rw [at0_eq hlt]; exact List.getElem_mem _
    have hby := r.hp _ hmem
    have hsu := fit_succ hlt
    obtain ⟨x, y, hxy⟩ : ∃ x y, at0 r.ps i = (x, y) := ⟨_, _, rfl⟩
    rw [hxy] at hld' hsu hby
    have hld' : ldNA H3 ⟨pb, po + i * 2, none⟩ 2 = some #[.int .u8 (x : Int), .int .u8 (y : Int)] := hld'
    have hbx : x < 256 := hby.1
    have hby : y < 256 := hby.2
    simp only [go_sem, List.map_cons, List.map_nil, ↓reduceIte, Nat.reduceEqDiff, Nat.reduceAdd, Nat.reduceMul, reduceCtorEq, and_true, true_and, Nat.mul_one, Nat.zero_add, Bool.false_eq_true, decide_true, decide_false, not_false_eq_true, fillV_nil, fillV_cons, okFill_nil, okFill_cons, cells_slice, cells_int, cells_bool, cells_str, cells_ptr, cells_agg, stNH_ptr, okN_ptr, wrA1, wrA20, wrA21, tn_cast, ldNO_ptr, hld']
    refine ⟨by omega, ?_⟩
    refine kont_new fun H4 b4 e4 z4 B4 K4 => ?_
    have s4 := K4.size
    have hst := B4.okNA (o := 0) (n := 2) (by simp)
    have B5 : Bl (stNA H4 ⟨b4, 0, none⟩ [.int .u8 (x : Int), .int .u8 (y : Int)]) b4 [.int .u8 (x : Int), .int .u8 (y : Int)] := B4.stNA 0 [.int .u8 (x : Int), .int .u8 (y : Int)]
    have K5 : Keep (fun q => q = b4) H4 (stNA H4 ⟨b4, 0, none⟩ [.int .u8 (x : Int), .int .u8 (y : Int)]) := (Keep.refl _ _).stNA _ (.inl rfl)
    have ha1 : all1 #[Value.int .u8 (x : Int), Value.int .u8 (y : Int)] := fun w hw => by simp at hw; rcases hw with rfl | rfl <;> rfl
    simp only [go_sem, List.map_cons, List.map_nil, ↓reduceIte, Nat.reduceEqDiff, Nat.reduceAdd, Nat.reduceMul, reduceCtorEq, and_true, true_and, Nat.mul_one, Nat.zero_add, Bool.false_eq_true, decide_true, decide_false, not_false_eq_true, fillV_nil, fillV_cons, okFill_nil, okFill_cons, cells_slice, cells_int, cells_bool, cells_str, cells_ptr, cells_agg, stNH_ptr, okN_ptr, wrA1, wrA20, wrA21, hst]
    refine ⟨ha1, ?_⟩
    rw [kont_eq]
    generalize stNA H4 ⟨b4, 0, none⟩ [.int .u8 (x : Int), .int .u8 (y : Int)] = H5 at B5 K5 ⊢
    have s5 := K5.size
    have K35 : Keep (fun _ => False) H3 H5 := K4.to_old K5 (by omega)
    have cx : cell H5 ⟨b4, 0, none⟩ = some (.int .u8 (x : Int)) := by rw [B5.cell]; rfl
    have cy : cell H5 ⟨b4, 1, none⟩ = some (.int .u8 (y : Int)) := by rw [B5.cell]; rfl
    have O5 := O3.keep K35 (by simp)
    have K05 : Keep (fun _ => False) H H5 := (K1.trans K2).trans (K3.trans K35)
    have B15 := (K3.trans K35).bl B2 (by simp)
    have fin : OwE nE 2 H5 w (fitL r) → Q w H5 := fun h => by
      rw [hQ]; exact ⟨h, fun q hq => by have := w3 q hq; omega, K05⟩
    by_cases h12 : i = 12
    · have e1 : ((i : Int) == 12) = true := by rw [h12]; rfl
      simp only [go_sem, List.map_cons, List.map_nil, ↓reduceIte, Nat.reduceEqDiff, Nat.reduceAdd, Nat.reduceMul, reduceCtorEq, and_true, true_and, Nat.mul_one, Nat.zero_add, Bool.false_eq_true, decide_true, decide_false, not_false_eq_true, kont_eq, fillV_nil, fillV_cons, okFill_nil, okFill_cons, cells_slice, cells_int, cells_bool, cells_str, cells_ptr, cells_agg, stNH_ptr, okN_ptr, wrA1, wrA20, wrA21, hg3, e1]
      refine fin ?_
      rw [h12] at O5
      unfold fitL
      rw [if_neg (hi0 (by omega))]; exact O5
    have e1 : ((i : Int) == 12) = false := by simp only [beq_eq_false_iff_ne, ne_eq]; omega
    by_cases hz : szR r = 0
    · have e2 : ((szR r : Int) == 0) = true := by rw [hz]; rfl
      simp only [go_sem, List.map_cons, List.map_nil, ↓reduceIte, Nat.reduceEqDiff, Nat.reduceAdd, Nat.reduceMul, reduceCtorEq, and_true, true_and, Nat.mul_one, Nat.zero_add, Bool.false_eq_true, decide_true, decide_false, not_false_eq_true, kont_eq, fillV_nil, fillV_cons, okFill_nil, okFill_cons, cells_slice, cells_int, cells_bool, cells_str, cells_ptr, cells_agg, stNH_ptr, okN_ptr, wrA1, wrA20, wrA21, hg3, e1, e2]
      refine fin ?_
      have : i = 0 := Nat.eq_zero_of_not_pos fun h => hi0 (by omega) hz
      subst this
      unfold fitL
      rw [if_pos hz]; exact O5
    have e2 : ((szR r : Int) == 0) = false := by simp only [beq_eq_false_iff_ne, ne_eq]; omega
    have hxm : x % szR r < szR r := Nat.mod_lt _ (by omega)
    have hym : y % szR r < szR r := Nat.mod_lt _ (by omega)
    have i1 : IntKind.i64.wrap (x : Int) = x := IntWalk.i64_in _ (by omega)
    have i2 : IntKind.i64.wrap (y : Int) = y := IntWalk.i64_in _ (by omega)
    simp only [go_sem, List.map_cons, List.map_nil, ↓reduceIte, Nat.reduceEqDiff, Nat.reduceAdd, Nat.reduceMul, reduceCtorEq, and_true, true_and, Nat.mul_one, Nat.zero_add, Bool.false_eq_true, decide_true, decide_false, not_false_eq_true, kont_eq, fillV_nil, fillV_cons, okFill_nil, okFill_cons, cells_slice, cells_int, cells_bool, cells_str, cells_ptr, cells_agg, stNH_ptr, okN_ptr, wrA1, wrA20, wrA21, hg3, e1, e2, cx, cy, i1, i2, tmod_nat, ha1]
    refine ⟨by omega, by omega, by omega, by omega, ?_⟩
    have hfp : fitP r (x, y) = if x % szR r = y % szR r then [] else if keyR r (y % szR r) < keyR r (x % szR r) then [(y % szR r, x % szR r)] else [(x % szR r, y % szR r)] := rfl
    by_cases hab : x % szR r = y % szR r
    · have e3 : (((x % szR r : Nat) : Int) == ((y % szR r : Nat) : Int)) = true := by rw [hab]; simp
      rw [if_pos hab] at hfp
      rw [hfp, List.append_nil] at hsu
      simp (disch := omega) only [go_sem, List.map_cons, List.map_nil, ↓reduceIte, Nat.reduceEqDiff, Nat.reduceAdd, Nat.reduceMul, reduceCtorEq, and_true, true_and, Nat.mul_one, Nat.zero_add, Bool.false_eq_true, decide_true, decide_false, not_false_eq_true, kont_eq, e3, hg14, IntWalk.i64_in]
      exact ⟨r.ps.length - (i + 1), by omega, i + 1, w, by omega, by omega, fun _ => hz, rfl, rfl, rfl, by rw [hsu]; exact O5, w3, K3.trans K35⟩
    · have e3 : (((x % szR r : Nat) : Int) == ((y % szR r : Nat) : Int)) = false := by simp only [beq_eq_false_iff_ne, ne_eq]; omega
      simp only [go_sem, List.map_cons, List.map_nil, ↓reduceIte, Nat.reduceEqDiff, Nat.reduceAdd, Nat.reduceMul, reduceCtorEq, and_true, true_and, Nat.mul_one, Nat.zero_add, Bool.false_eq_true, decide_true, decide_false, not_false_eq_true, kont_eq, e3]
      refine vc_drk (fun _ => False) ?_
      simp only [go_sem, List.map_cons, List.map_nil, ↓reduceIte, Nat.reduceEqDiff, Nat.reduceAdd, Nat.reduceMul, reduceCtorEq, and_true, true_and, Nat.mul_one, Nat.zero_add, Bool.false_eq_true, decide_true, decide_false, not_false_eq_true, kont_eq, fillV_nil, fillV_cons, okFill_nil, okFill_cons, cells_slice, cells_int, cells_bool, cells_str, cells_ptr, cells_agg, stNH_ptr, okN_ptr, wrA1, wrA20, wrA21, B15.ldNO 4 rfl]
      refine (hy r _ (x % szR r) H5 (hv0.keep0 K05) (by omega)).mono ?_
      rintro k1 H6 ⟨rfl, K6⟩
      simp only [go_sem, List.map_cons, List.map_nil, ↓reduceIte, Nat.reduceEqDiff, Nat.reduceAdd, Nat.reduceMul, reduceCtorEq, and_true, true_and, Nat.mul_one, Nat.zero_add, Bool.false_eq_true, decide_true, decide_false, not_false_eq_true, kont_eq, fillV_nil, fillV_cons, okFill_nil, okFill_cons, cells_slice, cells_int, cells_bool, cells_str, cells_ptr, cells_agg, stNH_ptr, okN_ptr, wrA1, wrA20, wrA21]
      refine ⟨K6, ?_⟩
      refine (hy r _ (y % szR r) H6 (hv0.keep0 (K05.trans K6)) (by omega)).mono ?_
      rintro k2 H7 ⟨rfl, K7⟩
      have K67 := K6.trans K7
      have s67 := K67.size
      by_cases hk : keyR r (y % szR r) < keyR r (x % szR r)
      · have e4 : decide ((keyR r (x % szR r) : Int) > (keyR r (y % szR r) : Int)) = true := decide_eq_true (by omega)
        have e4' : decide ((keyR r (y % szR r) : Int) < (keyR r (x % szR r) : Int)) = true := decide_eq_true (by omega)
        simp only [go_sem, List.map_cons, List.map_nil, ↓reduceIte, Nat.reduceEqDiff, Nat.reduceAdd, Nat.reduceMul, reduceCtorEq, and_true, true_and, Nat.mul_one, Nat.zero_add, Bool.false_eq_true, decide_true, decide_false, not_false_eq_true, fillV_nil, fillV_cons, okFill_nil, okFill_cons, cells_slice, cells_int, cells_bool, cells_str, cells_ptr, cells_agg, stNH_ptr, okN_ptr, wrA1, wrA20, wrA21, e4, e4', hg3]
        refine ⟨K7, ?_⟩
        ·
          rw [if_neg hab, if_pos hk] at hfp
          rw [hfp] at hsu
          refine ⟨by omega, ?_⟩
          refine kont_news fun HA ba ea za Ba KA => ?_
          have sA := KA.size
          have KAA := K67.trans KA
          obtain ⟨xa, xn, xc, rfl⟩ := O3.shape
          simp only [go_sem, List.map_cons, List.map_nil, ↓reduceIte, Nat.reduceEqDiff, Nat.reduceAdd, Nat.reduceMul, reduceCtorEq, and_true, true_and, Nat.mul_one, Nat.zero_add, Bool.false_eq_true, decide_true, decide_false, not_false_eq_true, kont_eq]
          have hx2 : SlE nE 2 HA (.slice (some ⟨ba, 0, none⟩) 1 1) [(y % szR r, x % szR r)] := SlE.bl Ba (l := [(y % szR r, x % szR r)]) rfl (by simp) (by simp)
          refine app_EN (m := [(y % szR r, x % szR r)]) H2.size nE_len nE_one (O5.keep KAA (by simp)) w3 (by omega) hx2 rfl (by omega) (by rw [List.length_singleton]; omega) fun v3 HB OB oB KB => ?_
          rw [← hsu] at OB
          simp (disch := omega) only [go_sem, List.map_cons, List.map_nil, ↓reduceIte, Nat.reduceEqDiff, Nat.reduceAdd, Nat.reduceMul, reduceCtorEq, and_true, true_and, Nat.mul_one, Nat.zero_add, Bool.false_eq_true, decide_true, decide_false, not_false_eq_true, kont_eq, hg14, IntWalk.i64_in]
          exact ⟨r.ps.length - (i + 1), by omega, i + 1, v3, by omega, by omega, fun _ => hz, rfl, rfl, rfl, OB, oB, ((K3.trans K35).trans KAA).at_old KB (Nat.le_refl _)⟩
      · have e4 : decide ((keyR r (x % szR r) : Int) > (keyR r (y % szR r) : Int)) = false := decide_eq_false (by omega)
        have e4' : decide ((keyR r (y % szR r) : Int) < (keyR r (x % szR r) : Int)) = false := decide_eq_false (by omega)
        simp only [go_sem, List.map_cons, List.map_nil, ↓reduceIte, Nat.reduceEqDiff, Nat.reduceAdd, Nat.reduceMul, reduceCtorEq, and_true, true_and, Nat.mul_one, Nat.zero_add, Bool.false_eq_true, decide_true, decide_false, not_false_eq_true, fillV_nil, fillV_cons, okFill_nil, okFill_cons, cells_slice, cells_int, cells_bool, cells_str, cells_ptr, cells_agg, stNH_ptr, okN_ptr, wrA1, wrA20, wrA21, e4, e4', hg3]
        refine ⟨K7, ?_⟩
        ·
          rw [if_neg hab, if_neg hk] at hfp
          rw [hfp] at hsu
          refine ⟨by omega, ?_⟩
          refine kont_news fun HA ba ea za Ba KA => ?_
          have sA := KA.size
          have KAA := K67.trans KA
          obtain ⟨xa, xn, xc, rfl⟩ := O3.shape
          simp only [go_sem, List.map_cons, List.map_nil, ↓reduceIte, Nat.reduceEqDiff, Nat.reduceAdd, Nat.reduceMul, reduceCtorEq, and_true, true_and, Nat.mul_one, Nat.zero_add, Bool.false_eq_true, decide_true, decide_false, not_false_eq_true, kont_eq]
          have hx2 : SlE nE 2 HA (.slice (some ⟨ba, 0, none⟩) 1 1) [(x % szR r, y % szR r)] := SlE.bl Ba (l := [(x % szR r, y % szR r)]) rfl (by simp) (by simp)
          refine app_EN (m := [(x % szR r, y % szR r)]) H2.size nE_len nE_one (O5.keep KAA (by simp)) w3 (by omega) hx2 rfl (by omega) (by rw [List.length_singleton]; omega) fun v3 HB OB oB KB => ?_
          rw [← hsu] at OB
          simp (disch := omega) only [go_sem, List.map_cons, List.map_nil, ↓reduceIte, Nat.reduceEqDiff, Nat.reduceAdd, Nat.reduceMul, reduceCtorEq, and_true, true_and, Nat.mul_one, Nat.zero_add, Bool.false_eq_true, decide_true, decide_false, not_false_eq_true, kont_eq, hg14, IntWalk.i64_in]
          exact ⟨r.ps.length - (i + 1), by omega, i + 1, v3, by omega, by omega, fun _ => hz, rfl, rfl, rfl, OB, oB, ((K3.trans K35).trans KAA).at_old KB (Nat.le_refl _)⟩
  · have hie : i = r.ps.length := by omega
    simp only [go_sem, List.map_cons, List.map_nil, ↓reduceIte, Nat.reduceEqDiff, Nat.reduceAdd, Nat.reduceMul, reduceCtorEq, and_true, true_and, Nat.mul_one, Nat.zero_add, Bool.false_eq_true, decide_true, decide_false, not_false_eq_true, kont_eq, hg3]
    rw [hQ]
    refine ⟨?_, fun q hq => by have := w3 q hq; omega, (K1.trans K2).trans K3⟩
    unfold fitL
    by_cases hz : szR r = 0
    · have : i = 0 := Nat.eq_zero_of_not_pos fun h => hi0 (by omega) hz
      subst this
      rw [if_pos hz]; exact O3
    · rw [if_neg hz, List.take_of_length_le (by omega)]
      rw [hie, List.take_length] at O3
      exact O3
end Go.Mg

namespace Go.Mg
open Go Go.RowKit
set_option linter.unusedSimpArgs false
set_option linter.unusedVariables false
set_option maxRecDepth 100000
/- arbacref06.Make -/
def c_rmake (ι : Ids) : S :=
  .seq (.reg [.e (.v 1) (.box (ι.t 263) (.v 0)), .e (.v 2) (.new (ι.t 246) #[.int .i64 0, .slice .none 0 0])]) (.seq (.dr (.px (.t 6) .none (.m (.ldn 4 (.v 1))) (.px (.t 8) .none (.m (.ldn 4 (.v 1)))
  (.wcons (.t 7) .none (.call (ι.f 264) [.t 6]) (.wcons (.t 9) .none (.call (ι.f 266) [.t 8]) (.wcons (.t 10) .none (.call (ι.f 254) [.t 7, .t 9]) (.px (.t 5) .none (.mv (.t 10)) (.px (.t 11) .none
  (.ext (.t 5) 0) (.px (.t 12) .none (.ext (.t 5) 1) (.wcons (.v 3) .none (.new (ι.t 246) #[.int .i64 0, .slice .none 0 0]) (.wcons .no .none (.stn 2 (.v 3) (.t 11)) (.px (.t 4) .none (.mv (.t 12))
  .done) .wnil) .wnil)))) (.wcons (.v 3) .none (.new (ι.t 246) #[.int .i64 0, .slice .none 0 0]) (.wcons (.t 10) .none (.call (ι.f 254) [.t 7, .t 9]) (.px (.t 5) .none (.mv (.t 10)) (.px (.t 11) .none
  (.ext (.t 5) 0) (.px (.t 12) .none (.ext (.t 5) 1) (.wcons .no .none (.stn 2 (.v 3) (.t 11)) (.px (.t 4) .none (.mv (.t 12)) .done) .wnil)))) .wnil) .wnil)) (.wcons (.v 3) .none (.new (ι.t 246) #[.int
  .i64 0, .slice .none 0 0]) (.wcons (.t 9) .none (.call (ι.f 266) [.t 8]) (.wcons (.t 10) .none (.call (ι.f 254) [.t 7, .t 9]) (.px (.t 5) .none (.mv (.t 10)) (.px (.t 11) .none (.ext (.t 5) 0) (.px
  (.t 12) .none (.ext (.t 5) 1) (.wcons .no .none (.stn 2 (.v 3) (.t 11)) (.px (.t 4) .none (.mv (.t 12)) .done) .wnil)))) .wnil) .wnil) .wnil)) (.wcons (.v 3) .none (.new (ι.t 246) #[.int .i64 0,
  .slice .none 0 0]) (.wcons (.t 7) .none (.call (ι.f 264) [.t 6]) (.wcons (.t 9) .none (.call (ι.f 266) [.t 8]) (.wcons (.t 10) .none (.call (ι.f 254) [.t 7, .t 9]) (.px (.t 5) .none (.mv (.t 10)) (.px
  (.t 11) .none (.ext (.t 5) 0) (.px (.t 12) .none (.ext (.t 5) 1) (.wcons .no .none (.stn 2 (.v 3) (.t 11)) (.px (.t 4) .none (.mv (.t 12)) .done) .wnil)))) .wnil) .wnil) .wnil) .wnil))))) (.seq (.reg
  [.p (.t 13) (.m (.ldn 2 (.v 3))), .e .no (.stn 2 (.v 2) (.t 13))]) .ret))
def r_rmake : List RV := [.cn 2 2]
/- arbaclaw06.Make -/
def c_lmake (ι : Ids) : S :=
  .seq (.reg [.e (.v 1) (.box (ι.t 263) (.v 0)), .p (.v 2) (.mv (.c (.pointer .none))), .e (.v 3) (.new (ι.t 246) #[.int .i64 0, .slice .none 0 0])]) (.seq (.dr (.px (.t 7) .none (.m (.ldn 4 (.v 1)))
  (.px (.t 9) .none (.m (.ldn 4 (.v 1))) (.wcons (.t 8) .none (.call (ι.f 264) [.t 7]) (.wcons (.t 10) .none (.call (ι.f 266) [.t 9]) (.wcons (.t 11) .none (.call (ι.f 201) [.t 8, .t 10]) (.px (.t 6)
  .none (.mv (.t 11)) (.px (.t 12) .none (.ext (.t 6) 0) (.px (.t 13) .none (.ext (.t 6) 1) (.px (.v 4) .none (.mv (.t 12)) (.px (.v 5) .none (.mv (.t 13)) .done))))) .wnil) .wnil) .wnil)))) (.seq (.seq
  (.reg [.p (.t 14) (.mv (.v 5)), .p (.v 15) (.cm .neq .i64 (.t 14) (.c (.int .i64 0)))]) (.ite (.v 15) (.seq (.reg [.p (.t 16) (.m (.ldn 4 (.v 1))), .e (.t 17) (.call (ι.f 267) [.t 16]), .p (.v 2) (.mv
  (.c (.pointer .none))), .e .no (.stn 2 (.v 3) (.t 17))]) .ret) .skip)) (.seq (.reg [.p (.t 18) (.mv (.v 4)), .p (.t 19) (.m (.ldn 4 (.v 1))), .e (.t 20) (.call (ι.f 267) [.t 19]), .p (.v 2) (.mv (.t
  18)), .e .no (.stn 2 (.v 3) (.t 20))]) .ret)))
def r_lmake : List RV := [.t 2, .cn 3 2]

theorem key_tab : ∀ (k : Fin 10) (a : Fin 11) (x y : Fin 8), (x.val * (1 + k.val) + a.val) % 11 = (y.val * (1 + k.val) + a.val) % 11 → x = y := by decide +kernel
theorem keyR_inj {r : RawN} {x y : Nat} (hx : x < 8) (hy : y < 8) (h : keyR r x = keyR r y) : x = y := by
  unfold keyR at h
  have h1 : ∀ z : Nat, (z * (1 + r.T % 10) + r.A) % 11 = (z * (1 + r.T % 10) + r.A % 11) % 11 := fun z => by omega
  rw [h1 x, h1 y] at h
  have := key_tab ⟨r.T % 10, Nat.mod_lt _ (by omega)⟩ ⟨r.A % 11, Nat.mod_lt _ (by omega)⟩ ⟨x, hx⟩ ⟨y, hy⟩ h
  exact congrArg Fin.val this
theorem fitL_mem {r : RawN} {p : NP} (h : p ∈ fitL r) : p.1 < szR r ∧ p.2 < szR r ∧ keyR r p.1 < keyR r p.2 := by
  unfold fitL at h
  split at h
  · simp at h
  · next hz =>
    obtain ⟨q, _, hq⟩ := List.mem_flatMap.1 h
    have h1 : q.1 % szR r < szR r := Nat.mod_lt _ (by omega)
    have h2 : q.2 % szR r < szR r := Nat.mod_lt _ (by omega)
    have hs : szR r < 8 := Nat.mod_lt _ (by omega)
    unfold fitP at hq
    split at hq
    · simp at hq
    · next hne =>
      have hk : keyR r (q.1 % szR r) ≠ keyR r (q.2 % szR r) := fun e => hne (keyR_inj (by omega) (by omega) e)
      split at hq
      · simp only [List.mem_singleton] at hq
        subst hq
        exact ⟨h2, h1, by assumption⟩
      · simp only [List.mem_singleton] at hq
        subst hq
        exact ⟨h1, h2, by show keyR r (q.1 % szR r) < keyR r (q.2 % szR r); omega⟩
theorem fitL_len (r : RawN) : (fitL r).length ≤ 12 := by
  unfold fitL
  split
  · simp
  · have := fit_len r (r.ps.take 12)
    rw [List.length_take] at this
    omega
def relF (r : RawN) : Nat → Nat → Bool := inP (fitL r)
theorem relF_rng (r : RawN) : Rng (szR r) (relF r) := Rng.inP fun p hp => ⟨(fitL_mem hp).1, (fitL_mem hp).2.1⟩
theorem relF_key {r : RawN} {a b : Nat} (h : Tc (relF r) a b) : keyR r a < keyR r b := by
  induction h with
  | one h => exact (fitL_mem (inP_iff.1 h)).2.2
  | more h _ ih =>
    have h2 := (fitL_mem (inP_iff.1 h)).2.2
    simp only at h2
    omega
theorem relF_acy (r : RawN) : Acy (relF r) := fun a h => by have := relF_key h; omega
theorem relI_fit (r : RawN) : relI ((fitL r).map toI) = relF r := by
  funext a b; exact inP_dec _ _ _
theorem szR_lt (r : RawN) : szR r < 8 := Nat.mod_lt _ (by omega)
theorem fit_ok (r : RawN) : ∀ p ∈ (fitL r).map toI, okP (szR r : Int) p := fun p hp => by
  obtain ⟨q, hq, rfl⟩ := List.mem_map.1 hp
  have := fitL_mem hq
  unfold okP toI
  simp only
  omega
theorem RNewRes.fit {r : RawN} {x : Value} {H : Hp} (h : RNewRes (szR r : Int) ((fitL r).map toI) x H) : ∃ v, x = .tuple #[v, .int .i64 0] ∧ ROrd H v (szR r) (relF r) := by
  have hs := szR_lt r
  rcases h with ⟨h, _⟩ | ⟨_, h, _⟩ | ⟨_, _, h, _⟩ | ⟨_, _, _, v, h1, h2⟩
  · unfold badN at h; omega
  · exact absurd (fit_ok r) h
  · rw [relI_fit] at h; exact absurd (relF_acy r) h
  · rw [relI_fit, Int.toNat_natCast] at h2; exact ⟨v, h1, h2⟩
theorem NewRes.fit {r : RawN} {x : Value} {H : Hp} (h : NewRes (szR r : Int) ((fitL r).map toI) x H) : ∃ v, x = .tuple #[v, .int .i64 0] ∧ OrdV H v (szR r) (relF r) := by
  have hs := szR_lt r
  rcases h with ⟨h, _⟩ | ⟨_, h, _⟩ | ⟨_, _, h, _⟩ | ⟨_, _, _, v, h1, h2⟩
  · unfold badN at h; omega
  · exact absurd (fit_ok r) h
  · rw [relI_fit] at h; exact absurd (relF_acy r) h
  · rw [relI_fit, Int.toNat_natCast] at h2; exact ⟨v, h1, h2⟩
def frO (B : Nat) (v : Value) : Prop := ∀ x pv, v = .agg #[x, pv] → ∀ q, slB pv q → B ≤ q
def RMakeSpec (P : Program) (k : FuncId) : Prop := ∀ (r : RawN) (v : Value) (H : Hp), RawV H v r → CallsM P k #[v] H fun x H' => ROrd H' x (szR r) (relF r) ∧ frO H.size x ∧ Keep (fun _ => False) H H'
theorem rmake_ok {P : Program} {ι : Ids} {k : FuncId} (hk : FnIs P k (c_rmake ι) r_rmake 1) (hs : RSizeSpec P (ι.f 264)) (hf : RFitSpec P (ι.f 266)) (hn : RNewSpec P (ι.f 254)) : RMakeSpec P k := by
  intro r v H hv
  have hv0 := hv
  obtain ⟨pv, rfl, hp, hl⟩ := hv
  obtain ⟨Q, hQ⟩ : ∃ Q : Value → Hp → Prop, Q = fun x H' => ROrd H' x (szR r) (relF r) ∧ frO H.size x ∧ Keep (fun _ => False) H H' := ⟨_, rfl⟩
  rw [← hQ]
  refine calls_of_vc hk (args := [_]) (by simp) ?_
  unfold c_rmake r_rmake
  simp only [go_sem, List.map_cons, List.map_nil, ↓reduceIte, Nat.reduceEqDiff, Nat.reduceAdd, Nat.reduceMul, reduceCtorEq, and_true, true_and, Nat.mul_one, Nat.zero_add, Bool.false_eq_true, decide_true, decide_false, not_false_eq_true]
  refine kont_new fun H0 b0 e0 z0 B0 K0 => ?_
  have s0 := K0.size
  have B0' : Bl H0 b0 [.int .u8 (r.N : Int), .int .u8 (r.T : Int), .int .u8 (r.A : Int), pv] := B0
  simp only [go_sem, List.map_cons, List.map_nil, ↓reduceIte, Nat.reduceEqDiff, Nat.reduceAdd, Nat.reduceMul, reduceCtorEq, and_true, true_and, Nat.mul_one, Nat.zero_add, Bool.false_eq_true, decide_true, decide_false, not_false_eq_true]
  refine kont_new fun H1 b1 e1 z1 B1 K1 => ?_
  have s1 := K1.size
  have B1' : Bl H1 b1 [.int .i64 0, .slice none 0 0] := B1
  have D1 := K1.bl B0' (by simp)
  have v1 := hv0.keep0 (K0.trans K1)
  simp only [go_sem, List.map_cons, List.map_nil, ↓reduceIte, Nat.reduceEqDiff, Nat.reduceAdd, Nat.reduceMul, reduceCtorEq, and_true, true_and, Nat.mul_one, Nat.zero_add, Bool.false_eq_true, decide_true, decide_false, not_false_eq_true, kont_eq]
  refine vc_drk (fun q => H1.size ≤ q) ?_
  have nb : ¬ H1.size ≤ b0 := by have := D1.lt; omega
  simp only [go_sem, List.map_cons, List.map_nil, ↓reduceIte, Nat.reduceEqDiff, Nat.reduceAdd, Nat.reduceMul, reduceCtorEq, and_true, true_and, Nat.mul_one, Nat.zero_add, Bool.false_eq_true, decide_true, decide_false, not_false_eq_true, kont_eq, fillV_nil, fillV_cons, okFill_nil, okFill_cons, cells_slice, cells_int, cells_bool, cells_str, cells_ptr, cells_agg, stNH_ptr, okN_ptr, wrA1, wrA20, wrA21, D1.ldNO 4 rfl, nb]
  obtain ⟨nn, hnn⟩ : ∃ nn, nn = Obj.cells (#[.int .i64 0, .slice none 0 0] : Array Value) (ι.t 246) := ⟨_, rfl⟩
  have kw : ∀ {A B : Hp}, Keep (fun _ => False) A B → Keep (fun q => H1.size ≤ q) A B := fun h => h.any
  have bn : ∀ A : Hp, Bl (A.push nn) A.size [.int .i64 0, .slice none 0 0] := fun A => by rw [hnn]; exact Bl.new' A #[.int .i64 0, .slice none 0 0] (ι.t 246)
  have size := fun (A : Hp) (K : Keep (fun _ => False) H1 A) => hs r _ A (v1.keep0 K)
  have fit := fun (A : Hp) (K : Keep (fun _ => False) H1 A) => hf r _ A (v1.keep0 K)
  have new := fun (A : Hp) (x : Value) (O : OwE nE 2 A x (fitL r)) => hn (szR r : Int) ((fitL r).map toI) x A (O.conv (by simp) (toI_flat _)).sl (by have := fitL_len r; simp; omega)
  have tail : ∀ (A : Hp) (bb : Nat) (pv' : Value), Keep (fun _ => False) H1 A → Bl A bb [.int .i64 0, .slice none 0 0] → H1.size ≤ bb → SlE nE 2 A pv' (gridP (szR r) (relF r)) → (∀ q, slB pv' q → H1.size ≤ q ∧ q ≠ bb) →
      okNA A ⟨bb, 0, none⟩ 2 ∧ all1 #[.int .i64 (szR r : Int), pv'] ∧ Keep (fun q => H1.size ≤ q) A (stNA A ⟨bb, 0, none⟩ [.int .i64 (szR r : Int), pv']) ∧ ldNO (stNA A ⟨bb, 0, none⟩ [.int .i64 (szR r : Int), pv']) (.pointer (some ⟨bb, 0, none⟩)) 2 = some #[.int .i64 (szR r : Int), pv'] ∧
      okNA (stNA A ⟨bb, 0, none⟩ [.int .i64 (szR r : Int), pv']) ⟨b1, 0, none⟩ 2 ∧ ldNO (stNA (stNA A ⟨bb, 0, none⟩ [.int .i64 (szR r : Int), pv']) ⟨b1, 0, none⟩ [.int .i64 (szR r : Int), pv']) (.pointer (some ⟨b1, 0, none⟩)) 2 = some #[.int .i64 (szR r : Int), pv'] ∧
      Q (.agg #[.int .i64 (szR r : Int), pv']) (stNA (stNA A ⟨bb, 0, none⟩ [.int .i64 (szR r : Int), pv']) ⟨b1, 0, none⟩ [.int .i64 (szR r : Int), pv']) := by
    intro A bb pv' KA hB hbb hs' hbl
    have KS : Keep (fun q => q = bb) A (stNA A ⟨bb, 0, none⟩ [.int .i64 (szR r : Int), pv']) := (Keep.refl _ _).stNA _ (.inl rfl)
    have hB2 : Bl (stNA A ⟨bb, 0, none⟩ [.int .i64 (szR r : Int), pv']) bb [.int .i64 (szR r : Int), pv'] := hB.stNA 0 [.int .i64 (szR r : Int), pv']
    have hb1 : b1 < H1.size := B1'.lt
    have C := KS.bl (KA.bl B1' (by simp)) (by omega)
    have C2 := C.stNA 0 [.int .i64 (szR r : Int), pv']
    have KT : Keep (fun q => q = b1) (stNA A ⟨bb, 0, none⟩ [.int .i64 (szR r : Int), pv']) (stNA (stNA A ⟨bb, 0, none⟩ [.int .i64 (szR r : Int), pv']) ⟨b1, 0, none⟩ [.int .i64 (szR r : Int), pv']) := (Keep.refl _ _).stNA _ (.inl rfl)
    have hsl := hs'.isSl
    have sA := KA.size
    refine ⟨hB.okNA (o := 0) (n := 2) (by simp), ?_, KS.mono fun q _ e => by omega, hB2.ldNO 2 rfl, C.okNA (o := 0) (n := 2) (by simp), Bl.ldNO C2 2 rfl, ?_⟩
    · intro u hu
      simp at hu
      rcases hu with rfl | rfl
      · rfl
      · cases u <;> first | rfl | exact hsl.elim
    · rw [hQ]
      have hsz := szR_lt r
      refine ⟨⟨by omega, relF_rng r, pv', rfl, (hs'.keep KS fun q hq e => (hbl q hq).2 e).keep KT fun q hq e => by have := (hbl q hq).1; omega⟩, fun x pv h q hq => ?_, (((K0.trans K1).trans KA).trans' KS fun q hq e => by omega).trans' KT fun q hq e => by omega⟩
      simp only [Value.agg.injEq, Array.mk.injEq, List.cons.injEq, and_true] at h
      rw [← h.2] at hq
      have := (hbl q hq).1
      omega
  rw [← hnn]
  refine ⟨?_, ?_⟩
  · refine (size H1 (Keep.refl _ _)).mono ?_
    rintro x H2 ⟨rfl, K2⟩
    simp only [go_sem, List.map_cons, List.map_nil, ↓reduceIte, Nat.reduceEqDiff, Nat.reduceAdd, Nat.reduceMul, reduceCtorEq, and_true, true_and, Nat.mul_one, Nat.zero_add, Bool.false_eq_true, decide_true, decide_false, not_false_eq_true, kont_eq, fillV_nil, fillV_cons, okFill_nil, okFill_cons, cells_slice, cells_int, cells_bool, cells_str, cells_ptr, cells_agg, stNH_ptr, okN_ptr, wrA1, wrA20, wrA21]
    rw [← hnn]
    refine ⟨kw K2, ?_, ?_⟩
    · refine (fit H2 K2).mono ?_
      rintro x H3 ⟨O3, o3, K3⟩
      have K13 := K2.trans K3
      have s13 := K13.size
      simp only [go_sem, List.map_cons, List.map_nil, ↓reduceIte, Nat.reduceEqDiff, Nat.reduceAdd, Nat.reduceMul, reduceCtorEq, and_true, true_and, Nat.mul_one, Nat.zero_add, Bool.false_eq_true, decide_true, decide_false, not_false_eq_true, kont_eq, fillV_nil, fillV_cons, okFill_nil, okFill_cons, cells_slice, cells_int, cells_bool, cells_str, cells_ptr, cells_agg, stNH_ptr, okN_ptr, wrA1, wrA20, wrA21]
      rw [← hnn]
      refine ⟨kw K3, ?_, ?_⟩
      · refine (new H3 x O3).mono ?_
        rintro y H4 ⟨hr, hfr, K4⟩
        obtain ⟨w, rfl, _, _, pv', rfl, hw⟩ := hr.fit
        have K14 := K13.trans K4
        have s14 := K14.size
        have KN := (Keep.refl (fun _ => False) H4).push nn
        obtain ⟨t1, t2, t3, t4, t5, t6, t7⟩ := tail (H4.push nn) H4.size pv' (K14.trans KN) (bn H4) (by omega) (hw.keep0 KN) fun q hq => ⟨by have := hfr _ _ _ rfl q hq; omega, by have := hw.old hq; omega⟩
        simp only [go_sem, List.map_cons, List.map_nil, ↓reduceIte, Nat.reduceEqDiff, Nat.reduceAdd, Nat.reduceMul, reduceCtorEq, and_true, true_and, Nat.mul_one, Nat.zero_add, Bool.false_eq_true, decide_true, decide_false, not_false_eq_true, kont_eq, fillV_nil, fillV_cons, okFill_nil, okFill_cons, cells_slice, cells_int, cells_bool, cells_str, cells_ptr, cells_agg, stNH_ptr, okN_ptr, wrA1, wrA20, wrA21]
        rw [← hnn]
        simp only [go_sem, List.map_cons, List.map_nil, ↓reduceIte, Nat.reduceEqDiff, Nat.reduceAdd, Nat.reduceMul, reduceCtorEq, and_true, true_and, Nat.mul_one, Nat.zero_add, Bool.false_eq_true, decide_true, decide_false, not_false_eq_true, kont_eq, fillV_nil, fillV_cons, okFill_nil, okFill_cons, cells_slice, cells_int, cells_bool, cells_str, cells_ptr, cells_agg, stNH_ptr, okN_ptr, wrA1, wrA20, wrA21, t1, t4, t5, t6]
        exact ⟨kw K4, kw KN, t2, t3, t2, t7⟩
      · have KE := (Keep.refl (fun _ => False) H3).push nn
        have sE : (H3.push nn).size = H3.size + 1 := by simp
        refine ⟨kw KE, ?_⟩
        refine (new (H3.push nn) x (O3.keep KE (by simp))).mono ?_
        rintro y HN ⟨hr, hfr, KN⟩
        obtain ⟨w, rfl, _, _, pv', rfl, hw⟩ := hr.fit
        have KB := (K13.trans KE).trans KN
        have sB := KB.size
        obtain ⟨t1, t2, t3, t4, t5, t6, t7⟩ := tail HN H3.size pv' KB (KN.bl (bn H3) (by simp)) (by omega) hw fun q hq => ⟨by have := hfr _ _ _ rfl q hq; omega, by have := hfr _ _ _ rfl q hq; omega⟩
        simp only [go_sem, List.map_cons, List.map_nil, ↓reduceIte, Nat.reduceEqDiff, Nat.reduceAdd, Nat.reduceMul, reduceCtorEq, and_true, true_and, Nat.mul_one, Nat.zero_add, Bool.false_eq_true, decide_true, decide_false, not_false_eq_true, kont_eq, fillV_nil, fillV_cons, okFill_nil, okFill_cons, cells_slice, cells_int, cells_bool, cells_str, cells_ptr, cells_agg, stNH_ptr, okN_ptr, wrA1, wrA20, wrA21, t1, t4, t5, t6]
        exact ⟨kw KN, t2, t3, t2, t7⟩
    · have KE := (Keep.refl (fun _ => False) H2).push nn
      have s2 := K2.size
      have sE : (H2.push nn).size = H2.size + 1 := by simp
      refine ⟨kw KE, ?_⟩
      refine (fit (H2.push nn) (K2.trans KE)).mono ?_
      rintro x H3 ⟨O3, o3, K3⟩
      have s3 := K3.size
      simp only [go_sem, List.map_cons, List.map_nil, ↓reduceIte, Nat.reduceEqDiff, Nat.reduceAdd, Nat.reduceMul, reduceCtorEq, and_true, true_and, Nat.mul_one, Nat.zero_add, Bool.false_eq_true, decide_true, decide_false, not_false_eq_true, kont_eq, fillV_nil, fillV_cons, okFill_nil, okFill_cons, cells_slice, cells_int, cells_bool, cells_str, cells_ptr, cells_agg, stNH_ptr, okN_ptr, wrA1, wrA20, wrA21]
      refine ⟨kw K3, ?_⟩
      refine (new H3 x O3).mono ?_
      rintro y HN ⟨hr, hfr, KN⟩
      obtain ⟨w, rfl, _, _, pv', rfl, hw⟩ := hr.fit
      have KB := ((K2.trans KE).trans K3).trans KN
      have sB := KB.size
      obtain ⟨t1, t2, t3, t4, t5, t6, t7⟩ := tail HN H2.size pv' KB (KN.bl (K3.bl (bn H2) (by simp)) (by simp)) (by omega) hw fun q hq => ⟨by have := hfr _ _ _ rfl q hq; omega, by have := hfr _ _ _ rfl q hq; omega⟩
      simp only [go_sem, List.map_cons, List.map_nil, ↓reduceIte, Nat.reduceEqDiff, Nat.reduceAdd, Nat.reduceMul, reduceCtorEq, and_true, true_and, Nat.mul_one, Nat.zero_add, Bool.false_eq_true, decide_true, decide_false, not_false_eq_true, kont_eq, fillV_nil, fillV_cons, okFill_nil, okFill_cons, cells_slice, cells_int, cells_bool, cells_str, cells_ptr, cells_agg, stNH_ptr, okN_ptr, wrA1, wrA20, wrA21, t1, t4, t5, t6]
      exact ⟨kw KN, t2, t3, t2, t7⟩
  · have KE := (Keep.refl (fun _ => False) H1).push nn
    have sE : (H1.push nn).size = H1.size + 1 := by simp
    refine ⟨kw KE, ?_⟩
    refine (size (H1.push nn) KE).mono ?_
    rintro x H2 ⟨rfl, K2⟩
    have s2 := K2.size
    simp only [go_sem, List.map_cons, List.map_nil, ↓reduceIte, Nat.reduceEqDiff, Nat.reduceAdd, Nat.reduceMul, reduceCtorEq, and_true, true_and, Nat.mul_one, Nat.zero_add, Bool.false_eq_true, decide_true, decide_false, not_false_eq_true, kont_eq, fillV_nil, fillV_cons, okFill_nil, okFill_cons, cells_slice, cells_int, cells_bool, cells_str, cells_ptr, cells_agg, stNH_ptr, okN_ptr, wrA1, wrA20, wrA21]
    refine ⟨kw K2, ?_⟩
    refine (fit H2 (KE.trans K2)).mono ?_
    rintro x H3 ⟨O3, o3, K3⟩
    have s3 := K3.size
    simp only [go_sem, List.map_cons, List.map_nil, ↓reduceIte, Nat.reduceEqDiff, Nat.reduceAdd, Nat.reduceMul, reduceCtorEq, and_true, true_and, Nat.mul_one, Nat.zero_add, Bool.false_eq_true, decide_true, decide_false, not_false_eq_true, kont_eq, fillV_nil, fillV_cons, okFill_nil, okFill_cons, cells_slice, cells_int, cells_bool, cells_str, cells_ptr, cells_agg, stNH_ptr, okN_ptr, wrA1, wrA20, wrA21]
    refine ⟨kw K3, ?_⟩
    refine (new H3 x O3).mono ?_
    rintro y HN ⟨hr, hfr, KN⟩
    obtain ⟨w, rfl, _, _, pv', rfl, hw⟩ := hr.fit
    have KB := ((KE.trans K2).trans K3).trans KN
    have sB := KB.size
    obtain ⟨t1, t2, t3, t4, t5, t6, t7⟩ := tail HN H1.size pv' KB (KN.bl (K3.bl (K2.bl (bn H1) (by simp)) (by simp)) (by simp)) (by omega) hw fun q hq => ⟨by have := hfr _ _ _ rfl q hq; omega, by have := hfr _ _ _ rfl q hq; omega⟩
    simp only [go_sem, List.map_cons, List.map_nil, ↓reduceIte, Nat.reduceEqDiff, Nat.reduceAdd, Nat.reduceMul, reduceCtorEq, and_true, true_and, Nat.mul_one, Nat.zero_add, Bool.false_eq_true, decide_true, decide_false, not_false_eq_true, kont_eq, fillV_nil, fillV_cons, okFill_nil, okFill_cons, cells_slice, cells_int, cells_bool, cells_str, cells_ptr, cells_agg, stNH_ptr, okN_ptr, wrA1, wrA20, wrA21, t1, t4, t5, t6]
    exact ⟨kw KN, t2, t3, t2, t7⟩
theorem frV.keep {W : Nat → Prop} {B : Nat} {H H' : Hp} {v : Value} {n : Nat} {R : Nat → Nat → Bool} (hf : frV B H v) (h : OrdV H v n R) (hk : Keep W H H') (hw : ∀ q, B ≤ q → q < H.size → ¬ W q) : frV B H' v := by
  obtain ⟨h1, h2, h3, b, pv, sv, ab, bb, avs, bvs, C, rfl, g1, g2, g3, g4, g5⟩ := h
  obtain ⟨k1, k2, k3, k4, k5, k6⟩ := hf b n ab bb pv sv rfl g1
  intro b' n' ab' bb' pv' sv' e hb
  cases e
  have hl := (hk.bl g1 (hw b k1 g1.lt)).uniq hb
  simp only [List.cons.injEq, Value.int.injEq, Value.slice.injEq, Option.some.injEq, Addr.mk.injEq, and_true, true_and] at hl
  obtain ⟨l1, l2, l3, l4, l5⟩ := hl
  obtain ⟨rfl, -⟩ := l3
  obtain ⟨rfl, -⟩ := l4
  subst l5 l2
  refine ⟨k1, k2, k3, k4, k5, fun vs hvs i hi q hq => ?_⟩
  rcases hvs with hvs | hvs
  · have := hvs.uniq (hk.bl g3.bl (hw ab k2 g3.bl.lt))
    subst this
    exact k6 _ (.inl g3.bl) i (by omega) q hq
  · have := hvs.uniq (hk.bl g4.bl (hw bb k3 g4.bl.lt))
    subst this
    exact k6 _ (.inr g4.bl) i (by omega) q hq
/-- the laws' Make -/
def LMakeSpec (P : Program) (ι : Ids) (k : FuncId) : Prop := ∀ (r : RawN) (v : Value) (H : Hp), TabOk ι H → RawV H v r → CallsM P k #[v] H fun x H' => ∃ ov tv, x = .tuple #[ov, tv] ∧ OrdV H' ov (szR r) (relF r) ∧ ROrd H' tv (szR r) (relF r) ∧ frV H.size H' ov ∧ frO H.size tv ∧ Keep (fun _ => False) H H'
theorem lmake_ok {P : Program} {ι : Ids} {k : FuncId} (hk : FnIs P k (c_lmake ι) r_lmake 1) (hs : RSizeSpec P (ι.f 264)) (hf : RFitSpec P (ι.f 266)) (hn : ONewSpec P ι (ι.f 201)) (hm : RMakeSpec P (ι.f 267)) : LMakeSpec P ι k := by
  intro r v H hT hv
  have hv0 := hv
  obtain ⟨pv, rfl, hp, hl⟩ := hv
  obtain ⟨Q, hQ⟩ : ∃ Q : Value → Hp → Prop, Q = fun x H' => ∃ ov tv, x = .tuple #[ov, tv] ∧ OrdV H' ov (szR r) (relF r) ∧ ROrd H' tv (szR r) (relF r) ∧ frV H.size H' ov ∧ frO H.size tv ∧ Keep (fun _ => False) H H' := ⟨_, rfl⟩
  rw [← hQ]
  refine calls_of_vc hk (args := [_]) (by simp) ?_
  unfold c_lmake r_lmake
  simp only [go_sem, List.map_cons, List.map_nil, ↓reduceIte, Nat.reduceEqDiff, Nat.reduceAdd, Nat.reduceMul, reduceCtorEq, and_true, true_and, Nat.mul_one, Nat.zero_add, Bool.false_eq_true, decide_true, decide_false, not_false_eq_true]
  refine kont_new fun H0 b0 e0 z0 B0 K0 => ?_
  have s0 := K0.size
  have B0' : Bl H0 b0 [.int .u8 (r.N : Int), .int .u8 (r.T : Int), .int .u8 (r.A : Int), pv] := B0
  simp only [go_sem, List.map_cons, List.map_nil, ↓reduceIte, Nat.reduceEqDiff, Nat.reduceAdd, Nat.reduceMul, reduceCtorEq, and_true, true_and, Nat.mul_one, Nat.zero_add, Bool.false_eq_true, decide_true, decide_false, not_false_eq_true]
  refine kont_new fun H1 b1 e1 z1 B1 K1 => ?_
  have s1 := K1.size
  have B1' : Bl H1 b1 [.int .i64 0, .slice none 0 0] := B1
  have D1 := K1.bl B0' (by simp)
  have v1 := hv0.keep0 (K0.trans K1)
  simp only [go_sem, List.map_cons, List.map_nil, ↓reduceIte, Nat.reduceEqDiff, Nat.reduceAdd, Nat.reduceMul, reduceCtorEq, and_true, true_and, Nat.mul_one, Nat.zero_add, Bool.false_eq_true, decide_true, decide_false, not_false_eq_true, kont_eq]
  refine vc_drk (fun q => H1.size ≤ q) ?_
  have nb : ¬ H1.size ≤ b0 := by have := D1.lt; omega
  simp only [go_sem, List.map_cons, List.map_nil, ↓reduceIte, Nat.reduceEqDiff, Nat.reduceAdd, Nat.reduceMul, reduceCtorEq, and_true, true_and, Nat.mul_one, Nat.zero_add, Bool.false_eq_true, decide_true, decide_false, not_false_eq_true, kont_eq, fillV_nil, fillV_cons, okFill_nil, okFill_cons, cells_slice, cells_int, cells_bool, cells_str, cells_ptr, cells_agg, stNH_ptr, okN_ptr, wrA1, wrA20, wrA21, D1.ldNO 4 rfl, nb]
  refine (hs r _ H1 v1).mono ?_
  rintro x H2 ⟨rfl, K2⟩
  simp only [go_sem, List.map_cons, List.map_nil, ↓reduceIte, Nat.reduceEqDiff, Nat.reduceAdd, Nat.reduceMul, reduceCtorEq, and_true, true_and, Nat.mul_one, Nat.zero_add, Bool.false_eq_true, decide_true, decide_false, not_false_eq_true, kont_eq, fillV_nil, fillV_cons, okFill_nil, okFill_cons, cells_slice, cells_int, cells_bool, cells_str, cells_ptr, cells_agg, stNH_ptr, okN_ptr, wrA1, wrA20, wrA21]
  refine ⟨K2.any, ?_⟩
  refine (hf r _ H2 (v1.keep0 K2)).mono ?_
  rintro x H3 ⟨O3, o3, K3⟩
  simp only [go_sem, List.map_cons, List.map_nil, ↓reduceIte, Nat.reduceEqDiff, Nat.reduceAdd, Nat.reduceMul, reduceCtorEq, and_true, true_and, Nat.mul_one, Nat.zero_add, Bool.false_eq_true, decide_true, decide_false, not_false_eq_true, kont_eq, fillV_nil, fillV_cons, okFill_nil, okFill_cons, cells_slice, cells_int, cells_bool, cells_str, cells_ptr, cells_agg, stNH_ptr, okN_ptr, wrA1, wrA20, wrA21]
  refine ⟨K3.any, ?_⟩
  have K03 := ((K0.trans K1).trans K2).trans K3
  refine (hn (szR r : Int) ((fitL r).map toI) x H3 (hT.keep K03) (O3.conv (by simp) (toI_flat _)).sl (by have := fitL_len r; simp; omega)).mono ?_
  rintro y H4 ⟨hr, K4, hfr⟩
  obtain ⟨w, rfl, hw⟩ := hr.fit
  have K14 := (K2.trans K3).trans K4
  have D4 := K14.bl D1 (by simp)
  have C4 := K14.bl B1' (by simp)
  have e0 : ((0 : Int) != 0) = false := rfl
  simp only [go_sem, List.map_cons, List.map_nil, ↓reduceIte, Nat.reduceEqDiff, Nat.reduceAdd, Nat.reduceMul, reduceCtorEq, and_true, true_and, Nat.mul_one, Nat.zero_add, Bool.false_eq_true, decide_true, decide_false, not_false_eq_true, kont_eq, fillV_nil, fillV_cons, okFill_nil, okFill_cons, cells_slice, cells_int, cells_bool, cells_str, cells_ptr, cells_agg, stNH_ptr, okN_ptr, wrA1, wrA20, wrA21, D4.ldNO 4 rfl, e0]
  refine ⟨K4.any, ?_⟩
  refine (hm r _ H4 (v1.keep0 K14)).mono ?_
  rintro x H5 ⟨⟨_, _, pv', rfl, hx⟩, hfo, K5⟩
  have s14 := K14.size
  have s2 := K2.size
  have s3 := K3.size
  have s4 := K4.size
  have s5 := K5.size
  have C5 := K5.bl C4 (by simp)
  have hst5 := C5.okNA (o := 0) (n := 2) (by simp)
  have C6 : Bl (stNA H5 ⟨b1, 0, none⟩ [.int .i64 (szR r : Int), pv']) b1 [.int .i64 (szR r : Int), pv'] := C5.stNA 0 [.int .i64 (szR r : Int), pv']
  have K6 : Keep (fun q => q = b1) H5 (stNA H5 ⟨b1, 0, none⟩ [.int .i64 (szR r : Int), pv']) := (Keep.refl _ _).stNA _ (.inl rfl)
  have hb1 : b1 < H1.size := B1'.lt
  have hfw : frV H3.size H4 w := hfr _ _ rfl
  have hw5 := hw.keepF hfw K5 (by simp)
  have hfw5 := hfw.keep hw K5 (by simp)
  have hw6 := hw5.keepF hfw5 K6 fun q hq _ e => by omega
  have hfw6 := hfw5.keep hw5 K6 fun q hq _ e => by omega
  have hsl := hx.isSl
  have ha5 : all1 #[Value.int .i64 (szR r : Int), pv'] := fun u hu => by
    simp at hu
    rcases hu with rfl | rfl
    · rfl
    · cases u <;> first | rfl | exact hsl.elim
  rw [kont_eq]
  simp only [go_sem, List.map_cons, List.map_nil, ↓reduceIte, Nat.reduceEqDiff, Nat.reduceAdd, Nat.reduceMul, reduceCtorEq, and_true, true_and, Nat.mul_one, Nat.zero_add, Bool.false_eq_true, decide_true, decide_false, not_false_eq_true, kont_eq, fillV_nil, fillV_cons, okFill_nil, okFill_cons, cells_slice, cells_int, cells_bool, cells_str, cells_ptr, cells_agg, stNH_ptr, okN_ptr, wrA1, wrA20, wrA21, hst5, C6.ldNO 2 rfl]
  refine ⟨ha5, ?_⟩
  rw [hQ]
  have hsz := szR_lt r
  have hfo' := hfo _ _ rfl
  refine ⟨_, _, rfl, hw6, ⟨by omega, relF_rng r, pv', rfl, hx.keep K6 fun q hq e => by have := hfo' q hq; omega⟩, hfw6.mono (by omega), fun x pv h q hq => ?_, (((K0.trans K1).trans K14).trans K5).trans' K6 fun q hq e => by omega⟩
  simp only [Value.agg.injEq, Array.mk.injEq, List.cons.injEq, and_true] at h
  rw [← h.2] at hq
  have := hfo' q hq
  omega
end Go.Mg

namespace Go.Mg
open Go Go.RowKit
set_option linter.unusedSimpArgs false
set_option linter.unusedVariables false
set_option maxRecDepth 100000
/- arbaclaw06.is -/
def c_lis (ι : Ids) : S :=
  .seq (.reg [.e (.v 3) (.box (ι.t 246) (.v 1)), .p (.v 4) (.mv (.c (.bool false)))]) (.seq (.seq (.dr (.px (.t 6) .none (.mv (.v 0)) (.px (.t 7) .none (.m (.eqn .ptr false (.t 6))) (.px (.t 8) .none
  (.mv (.t 7)) (.px (.t 9) (.some (.t 8, false)) (.mv (.v 0)) (.px (.t 11) (.some (.t 8, false)) (.fa 0 (.v 3)) (.px (.t 12) (.some (.t 8, false)) (.ld (.t 11)) (.wcons (.t 10) (.some (.t 8, false))
  (.call (ι.f 203) [.t 9]) (.px (.t 13) (.some (.t 8, false)) (.cm .neq .i64 (.t 10) (.t 12)) (.px (.t 14) .none (.pick (.t 8) (.c (.bool true)) (.t 13)) (.px (.t 15) .none (.mv (.t 14)) (.px (.t 16)
  (.some (.t 15, false)) (.mv (.v 0)) (.px (.t 18) (.some (.t 15, false)) (.fa 1 (.v 3)) (.px (.t 19) (.some (.t 15, false)) (.ld (.t 18)) (.wcons (.t 17) (.some (.t 15, false)) (.call (ι.f 205) [.t
  16]) (.wcons (.t 20) (.some (.t 15, false)) (.call (ι.f 229) [.t 17, .t 19]) (.px (.t 21) (.some (.t 15, false)) (.not (.t 20)) (.px (.v 22) .none (.pick (.t 15) (.c (.bool true)) (.t 21)) .done))
  .wnil) .wnil))))))) .wnil)))))))) (.ite (.v 22) (.seq (.reg [.p (.v 4) (.mv (.c (.bool false)))]) .ret) .skip)) (.seq (.seq (.reg [.p (.t 23) (.fa 0 (.v 3)), .p (.v 24) (.ld (.t 23)), .p (.v 25) (.mv
  (.c (.int .i64 0)))]) (.blk 0 (.loop (.seq (.reg [.p (.v 26) (.cm .lss .i64 (.v 25) (.v 24))]) (.seq (.ite (.v 26) .skip (.exit 0)) (.seq (.blk 1 (.seq (.reg [.p (.t 27) (.mv (.v 25)), .p (.v 5) (.mv
  (.t 27))]) (.seq (.dr (.px (.t 28) .none (.mv (.v 0)) (.px (.t 29) .none (.mv (.v 5)) (.px (.t 32) .none (.m (.ldn 2 (.v 3))) (.px (.t 33) .none (.mv (.v 5)) (.wcons (.t 30) .none (.call (ι.f 206) [.t
  28, .t 29]) (.wcons (.t 31) .none (.call (ι.f 139) [.t 30]) (.wcons (.t 34) .none (.call (ι.f 251) [.t 32, .t 33]) (.wcons (.t 35) .none (.call (ι.f 165) [.t 31, .t 34]) (.px (.t 36) .none (.not (.t
  35)) (.px (.t 37) .none (.mv (.t 36)) (.px (.t 38) (.some (.t 37, false)) (.mv (.v 0)) (.px (.t 39) (.some (.t 37, false)) (.mv (.v 5)) (.px (.t 42) (.some (.t 37, false)) (.m (.ldn 2 (.v 3))) (.px
  (.t 43) (.some (.t 37, false)) (.mv (.v 5)) (.wcons (.t 40) (.some (.t 37, false)) (.call (ι.f 207) [.t 38, .t 39]) (.wcons (.t 41) (.some (.t 37, false)) (.call (ι.f 139) [.t 40]) (.wcons (.t 44)
  (.some (.t 37, false)) (.call (ι.f 252) [.t 42, .t 43]) (.wcons (.t 45) (.some (.t 37, false)) (.call (ι.f 165) [.t 41, .t 44]) (.px (.t 46) (.some (.t 37, false)) (.not (.t 45)) (.px (.v 47) .none
  (.pick (.t 37) (.c (.bool true)) (.t 46)) .done)) .wnil) .wnil) .wnil) .wnil))))))) .wnil) .wnil) .wnil) .wnil)))))) (.ite (.v 47) (.seq (.reg [.p (.v 4) (.mv (.c (.bool false)))]) .ret) .skip))))
  (.reg [.p (.t 48) (.ar .add .i64 (.v 25) (.c (.int .i64 1))), .p (.v 25) (.mv (.t 48))]))))))) (.seq (.reg [.p (.v 4) (.mv (.c (.bool true)))]) .ret)))
def r_lis : List RV := [.t 4]

theorem mems_rng {n : Nat} {p : Nat → Bool} (hn : n ≤ 4096) (h : ∀ y, p y = true → y < n) : mems p = (List.range n).filter p := by
  unfold mems
  obtain ⟨k, hk⟩ : ∃ k, 4096 = n + k := ⟨4096 - n, by omega⟩
  rw [hk, List.range_add, List.filter_append]
  have : ((List.range k).map (n + ·)).filter p = [] := by
    rw [List.filter_eq_nil_iff]
    intro y hy hp
    obtain ⟨j, _, rfl⟩ := List.mem_map.1 hy
    have := h _ hp
    omega
  rw [this, List.append_nil]
theorem abv_list {n : Nat} {R : Nat → Nat → Bool} (hR : Rng n R) (hn : n ≤ 256) (b : Int) : mems (abvO (some (n, R)) b) = rabL n R b := by
  rw [mems_rng (n := n) (by omega) fun y hy => by
    simp only [abvO, Bool.and_eq_true] at hy
    exact (hR.tc (tcB_iff.1 hy.2)).1]
  unfold rabL
  refine List.filter_congr fun x hx => ?_
  have hx := List.mem_range.1 hx
  simp only [abvO, inO, isRb]
  rw [Int.toNat_natCast]
  congr 1
  rw [Bool.eq_iff_iff]
  simp only [Bool.and_eq_true, decide_eq_true_eq]
  omega
theorem blw_list {n : Nat} {R : Nat → Nat → Bool} (hR : Rng n R) (hn : n ≤ 256) (a : Int) : mems (blwO (some (n, R)) a) = rbeL n R a := by
  rw [mems_rng (n := n) (by omega) fun y hy => by
    simp only [blwO, Bool.and_eq_true] at hy
    exact (hR.tc (tcB_iff.1 hy.2)).2]
  unfold rbeL
  refine List.filter_congr fun x hx => ?_
  have hx := List.mem_range.1 hx
  simp only [blwO, inO, isRb]
  rw [Int.toNat_natCast]
  congr 1
  rw [Bool.eq_iff_iff]
  simp only [Bool.and_eq_true, decide_eq_true_eq]
  omega
theorem rabL_len {n : Nat} {R : Nat → Nat → Bool} (b : Int) : (rabL n R b).length ≤ n := by
  have := List.length_filter_le (fun j : Nat => isRb n R j b) (List.range n)
  rw [List.length_range] at this; exact this
theorem rbeL_len {n : Nat} {R : Nat → Nat → Bool} (b : Int) : (rbeL n R b).length ≤ n := by
  have := List.length_filter_le (fun j : Nat => isRb n R b j) (List.range n)
  rw [List.length_range] at this; exact this
structure IsC (P : Program) (ι : Ids) : Prop where
  len : OLenSpec P (ι.f 203)
  prs : OPairsSpec P (ι.f 205)
  abv : OAbvSpec P (ι.f 206)
  blw : OBlwSpec P (ι.f 207)
  lst : BListSpec P ι (ι.f 139)
  rab : RListSpec P (ι.f 251) rabL
  rbe : RListSpec P (ι.f 252) rbeL
  eqI : IEqSpec P (ι.f 165)
  eqP : PEqSpec P (ι.f 229)
def IsSpec (P : Program) (ι : Ids) (k : FuncId) : Prop := ∀ (n : Nat) (R : Nat → Nat → Bool) (v tv : Value) (H : Hp), TabOk ι H → OrdV H v n R → ROrd H tv n R → CallsM P k #[v, tv] H fun r H' => r = .bool true ∧ Keep (fun _ => False) H H'
theorem lis_ok {P : Program} {ι : Ids} {k : FuncId} (hk : FnIs P k (c_lis ι) r_lis 2) (c : IsC P ι) : IsSpec P ι k := by
  intro n R v tv H hT hv ht
  have ht0 := ht
  obtain ⟨hn, hR, pv, rfl, hp⟩ := ht
  obtain ⟨Q, hQ⟩ : ∃ Q : Value → Hp → Prop, Q = fun r H' => r = .bool true ∧ Keep (fun _ => False) H H' := ⟨_, rfl⟩
  rw [← hQ]
  refine calls_of_vc hk (args := [_, _]) (by simp) ?_
  unfold c_lis r_lis
  obtain ⟨ob, rfl⟩ : ∃ ob, v = .pointer (some ⟨ob, 0, none⟩) := by
    obtain ⟨_, _, _, b, _, _, _, _, _, _, _, e, _⟩ := hv; exact ⟨b, e⟩
  simp only [go_sem, List.map_cons, List.map_nil, ↓reduceIte, Nat.reduceEqDiff, Nat.reduceAdd, Nat.reduceMul, reduceCtorEq, and_true, true_and, Nat.mul_one, Nat.zero_add, Bool.false_eq_true, decide_true, decide_false, not_false_eq_true]
  refine kont_new fun H1 b1 e1 z1 B1 K1 => ?_
  have s1 := K1.size
  have B1' : Bl H1 b1 [.int .i64 (n : Int), pv] := B1
  have c0 : cell H1 ⟨b1, 0, none⟩ = some (.int .i64 (n : Int)) := by rw [B1'.cell]; rfl
  have c1 : cell H1 ⟨b1, 1, none⟩ = some pv := by rw [B1'.cell]; rfl
  have p1 := hp.keep0 K1
  have v1 : OrdO H1 (.pointer (some ⟨ob, 0, none⟩)) (some (n, R)) := hv.keep0 K1
  have hgl := gridP_len16 R hn
  simp only [go_sem, List.map_cons, List.map_nil, ↓reduceIte, Nat.reduceEqDiff, Nat.reduceAdd, Nat.reduceMul, reduceCtorEq, and_true, true_and, Nat.mul_one, Nat.zero_add, Bool.false_eq_true, decide_true, decide_false, not_false_eq_true, kont_eq]
  refine vc_drk (fun _ => False) ?_
  simp only [go_sem, List.map_cons, List.map_nil, ↓reduceIte, Nat.reduceEqDiff, Nat.reduceAdd, Nat.reduceMul, reduceCtorEq, and_true, true_and, Nat.mul_one, Nat.zero_add, Bool.false_eq_true, decide_true, decide_false, not_false_eq_true, kont_eq, fillV_nil, fillV_cons, okFill_nil, okFill_cons, cells_slice, cells_int, cells_bool, cells_str, cells_ptr, cells_agg, stNH_ptr, okN_ptr, wrA1, wrA20, wrA21, c0, c1]
  refine (c.len _ _ H1 v1).mono ?_
  rintro x H2 ⟨rfl, rfl⟩
  have e2 : ((lenO (some (n, R)) : Int) != (n : Int)) = false := by simp [lenO]
  simp only [go_sem, List.map_cons, List.map_nil, ↓reduceIte, Nat.reduceEqDiff, Nat.reduceAdd, Nat.reduceMul, reduceCtorEq, and_true, true_and, Nat.mul_one, Nat.zero_add, Bool.false_eq_true, decide_true, decide_false, not_false_eq_true, kont_eq, fillV_nil, fillV_cons, okFill_nil, okFill_cons, cells_slice, cells_int, cells_bool, cells_str, cells_ptr, cells_agg, stNH_ptr, okN_ptr, wrA1, wrA20, wrA21, e2, c1]
  refine ⟨Keep.refl _ _, ?_⟩
  refine (c.prs _ _ H2 v1).mono ?_
  rintro x H3 ⟨O3, o3, K3⟩
  simp only [go_sem, List.map_cons, List.map_nil, ↓reduceIte, Nat.reduceEqDiff, Nat.reduceAdd, Nat.reduceMul, reduceCtorEq, and_true, true_and, Nat.mul_one, Nat.zero_add, Bool.false_eq_true, decide_true, decide_false, not_false_eq_true, kont_eq, fillV_nil, fillV_cons, okFill_nil, okFill_cons, cells_slice, cells_int, cells_bool, cells_str, cells_ptr, cells_agg, stNH_ptr, okN_ptr, wrA1, wrA20, wrA21]
  refine ⟨K3, ?_⟩
  refine (c.eqP (gridP n R) (gridP n R) x pv H3 O3.sl (p1.keep0 K3) (by omega)).mono ?_
  rintro x H4 ⟨rfl, rfl⟩
  have e3 : decide (gridP n R = gridP n R) = true := decide_eq_true rfl
  have B3 := K3.bl B1' (by simp)
  have c3 : cell H4 ⟨b1, 0, none⟩ = some (.int .i64 (n : Int)) := by rw [B3.cell]; rfl
  simp only [go_sem, List.map_cons, List.map_nil, ↓reduceIte, Nat.reduceEqDiff, Nat.reduceAdd, Nat.reduceMul, reduceCtorEq, and_true, true_and, Nat.mul_one, Nat.zero_add, Bool.false_eq_true, decide_true, decide_false, not_false_eq_true, kont_eq, fillV_nil, fillV_cons, okFill_nil, okFill_cons, cells_slice, cells_int, cells_bool, cells_str, cells_ptr, cells_agg, stNH_ptr, okN_ptr, wrA1, wrA20, wrA21, e3, c3]
  refine ⟨Keep.refl _ _, ?_⟩
  refine vc_loop [26, 5, 47, 4, 25] rfl (fun m f A => ∃ (i : Nat), i ≤ n ∧ m = n - i ∧ f 25 = .int .i64 i ∧ Keep (fun _ => False) H2 A) n ?_ ?_
  · exact ⟨0, by omega, by omega, by simp only [go_sem, List.map_cons, List.map_nil, ↓reduceIte, Nat.reduceEqDiff, Nat.reduceAdd, Nat.reduceMul, reduceCtorEq, and_true, true_and, Nat.mul_one, Nat.zero_add, Bool.false_eq_true, decide_true, decide_false, not_false_eq_true, kont_eq]; rfl, K3⟩
  rintro m f H5 ⟨i, hi, rfl, hf, K5⟩
  have s5 := K5.size
  simp only [go_sem, List.map_cons, List.map_nil, ↓reduceIte, Nat.reduceEqDiff, Nat.reduceAdd, Nat.reduceMul, reduceCtorEq, and_true, true_and, Nat.mul_one, Nat.zero_add, Bool.false_eq_true, decide_true, decide_false, not_false_eq_true, kont_eq] at hf
  simp only [go_sem, List.map_cons, List.map_nil, ↓reduceIte, Nat.reduceEqDiff, Nat.reduceAdd, Nat.reduceMul, reduceCtorEq, and_true, true_and, Nat.mul_one, Nat.zero_add, Bool.false_eq_true, decide_true, decide_false, not_false_eq_true, hf]
  refine iteV_dec (fun hlt => ?_) (fun hge => ?_)
  · have hin : i < n := by omega
    have B5 := K5.bl B1' (by simp)
    refine vc_drk (fun _ => False) ?_
    simp only [go_sem, List.map_cons, List.map_nil, ↓reduceIte, Nat.reduceEqDiff, Nat.reduceAdd, Nat.reduceMul, reduceCtorEq, and_true, true_and, Nat.mul_one, Nat.zero_add, Bool.false_eq_true, decide_true, decide_false, not_false_eq_true, kont_eq, fillV_nil, fillV_cons, okFill_nil, okFill_cons, cells_slice, cells_int, cells_bool, cells_str, cells_ptr, cells_agg, stNH_ptr, okN_ptr, wrA1, wrA20, wrA21, B5.ldNO 2 rfl, hf]
    have K05 := K1.trans K5
    refine (c.abv _ _ i H5 (OrdO.keep0 (o := some (n, R)) hv K05)).mono ?_
    rintro x H6 ⟨S6, K6, _⟩
    simp only [go_sem, List.map_cons, List.map_nil, ↓reduceIte, Nat.reduceEqDiff, Nat.reduceAdd, Nat.reduceMul, reduceCtorEq, and_true, true_and, Nat.mul_one, Nat.zero_add, Bool.false_eq_true, decide_true, decide_false, not_false_eq_true, kont_eq, fillV_nil, fillV_cons, okFill_nil, okFill_cons, cells_slice, cells_int, cells_bool, cells_str, cells_ptr, cells_agg, stNH_ptr, okN_ptr, wrA1, wrA20, wrA21]
    refine ⟨K6, ?_⟩
    refine (c.lst _ x H6 (hT.keep (K05.trans K6)) S6).mono ?_
    rintro la H7 ⟨O7, o7, K7⟩
    simp only [go_sem, List.map_cons, List.map_nil, ↓reduceIte, Nat.reduceEqDiff, Nat.reduceAdd, Nat.reduceMul, reduceCtorEq, and_true, true_and, Nat.mul_one, Nat.zero_add, Bool.false_eq_true, decide_true, decide_false, not_false_eq_true, kont_eq, fillV_nil, fillV_cons, okFill_nil, okFill_cons, cells_slice, cells_int, cells_bool, cells_str, cells_ptr, cells_agg, stNH_ptr, okN_ptr, wrA1, wrA20, wrA21]
    refine ⟨K7, ?_⟩
    have K07 := (K05.trans K6).trans K7
    refine (c.rab n R _ i H7 (ht0.keep0 K07)).mono ?_
    rintro lb H8 ⟨O8, o8, K8⟩
    simp only [go_sem, List.map_cons, List.map_nil, ↓reduceIte, Nat.reduceEqDiff, Nat.reduceAdd, Nat.reduceMul, reduceCtorEq, and_true, true_and, Nat.mul_one, Nat.zero_add, Bool.false_eq_true, decide_true, decide_false, not_false_eq_true, kont_eq, fillV_nil, fillV_cons, okFill_nil, okFill_cons, cells_slice, cells_int, cells_bool, cells_str, cells_ptr, cells_agg, stNH_ptr, okN_ptr, wrA1, wrA20, wrA21]
    refine ⟨K8, ?_⟩
    rw [memL_nI, abv_list hR hn] at O7
    have hll := rabL_len (n := n) (R := R) (i : Int)
    refine (c.eqI (nI (rabL n R i)) (nI (rabL n R i)) la lb H8 (O7.keep K8 (by simp)).sl O8.sl (by simp [nI]; omega)).mono ?_
    rintro x H9 ⟨rfl, rfl⟩
    have e4 : decide (nI (rabL n R i) = nI (rabL n R i)) = true := decide_eq_true rfl
    have K09 := K07.trans K8
    have B9 := ((K6.trans K7).trans K8).bl B5 (by simp)
    simp only [go_sem, List.map_cons, List.map_nil, ↓reduceIte, Nat.reduceEqDiff, Nat.reduceAdd, Nat.reduceMul, reduceCtorEq, and_true, true_and, Nat.mul_one, Nat.zero_add, Bool.false_eq_true, decide_true, decide_false, not_false_eq_true, kont_eq, fillV_nil, fillV_cons, okFill_nil, okFill_cons, cells_slice, cells_int, cells_bool, cells_str, cells_ptr, cells_agg, stNH_ptr, okN_ptr, wrA1, wrA20, wrA21, e4, B9.ldNO 2 rfl]
    refine ⟨Keep.refl _ _, ?_⟩
    refine (c.blw _ _ i H9 (OrdO.keep0 (o := some (n, R)) hv K09)).mono ?_
    rintro x HA ⟨SA, KA, _⟩
    simp only [go_sem, List.map_cons, List.map_nil, ↓reduceIte, Nat.reduceEqDiff, Nat.reduceAdd, Nat.reduceMul, reduceCtorEq, and_true, true_and, Nat.mul_one, Nat.zero_add, Bool.false_eq_true, decide_true, decide_false, not_false_eq_true, kont_eq, fillV_nil, fillV_cons, okFill_nil, okFill_cons, cells_slice, cells_int, cells_bool, cells_str, cells_ptr, cells_agg, stNH_ptr, okN_ptr, wrA1, wrA20, wrA21]
    refine ⟨KA, ?_⟩
    refine (c.lst _ x HA (hT.keep (K09.trans KA)) SA).mono ?_
    rintro la2 HB ⟨OB, oB, KB⟩
    simp only [go_sem, List.map_cons, List.map_nil, ↓reduceIte, Nat.reduceEqDiff, Nat.reduceAdd, Nat.reduceMul, reduceCtorEq, and_true, true_and, Nat.mul_one, Nat.zero_add, Bool.false_eq_true, decide_true, decide_false, not_false_eq_true, kont_eq, fillV_nil, fillV_cons, okFill_nil, okFill_cons, cells_slice, cells_int, cells_bool, cells_str, cells_ptr, cells_agg, stNH_ptr, okN_ptr, wrA1, wrA20, wrA21]
    refine ⟨KB, ?_⟩
    have K0B := (K09.trans KA).trans KB
    refine (c.rbe n R _ i HB (ht0.keep0 K0B)).mono ?_
    rintro lb2 HC ⟨OC, oC, KC⟩
    simp only [go_sem, List.map_cons, List.map_nil, ↓reduceIte, Nat.reduceEqDiff, Nat.reduceAdd, Nat.reduceMul, reduceCtorEq, and_true, true_and, Nat.mul_one, Nat.zero_add, Bool.false_eq_true, decide_true, decide_false, not_false_eq_true, kont_eq, fillV_nil, fillV_cons, okFill_nil, okFill_cons, cells_slice, cells_int, cells_bool, cells_str, cells_ptr, cells_agg, stNH_ptr, okN_ptr, wrA1, wrA20, wrA21]
    refine ⟨KC, ?_⟩
    rw [memL_nI, blw_list hR hn] at OB
    have hll := rbeL_len (n := n) (R := R) (i : Int)
    refine (c.eqI (nI (rbeL n R i)) (nI (rbeL n R i)) la2 lb2 HC (OB.keep KC (by simp)).sl OC.sl (by simp [nI]; omega)).mono ?_
    rintro x HD ⟨rfl, rfl⟩
    have e5 : decide (nI (rbeL n R i) = nI (rbeL n R i)) = true := decide_eq_true rfl
    simp (disch := omega) only [go_sem, List.map_cons, List.map_nil, ↓reduceIte, Nat.reduceEqDiff, Nat.reduceAdd, Nat.reduceMul, reduceCtorEq, and_true, true_and, Nat.mul_one, Nat.zero_add, Bool.false_eq_true, decide_true, decide_false, not_false_eq_true, kont_eq, fillV_nil, fillV_cons, okFill_nil, okFill_cons, cells_slice, cells_int, cells_bool, cells_str, cells_ptr, cells_agg, stNH_ptr, okN_ptr, wrA1, wrA20, wrA21, e5, hf, IntWalk.i64_in]
    exact ⟨Keep.refl _ _, n - (i + 1), by omega, i + 1, by omega, rfl, rfl, K5.trans (((((K6.trans K7).trans K8).trans KA).trans KB).trans KC)⟩
  · rw [hQ]
    exact ⟨rfl, K1.trans K5⟩
end Go.Mg
