/- matching: the law of chains. -/
import Derived.Test.YtihlnbepcimnfaaDoorMgM20
import Derived.Test.YtihlnbepcimnfaaDoorMgC1
import Derived.Test.YtihlnbepcimnfaaDoorMgP5
namespace Go.Mg
open Go Go.RowKit
set_option linter.unusedSimpArgs false
set_option linter.unusedVariables false
set_option maxRecDepth 100000
/- arbaclaw09.MatchingChains -/
def c_lchains (ι : Ids) : S :=
  .seq (.reg [.p (.v 4) (.mv (.c (.bool false)))]) (.seq (.seq (.reg [.e (.t 22) (.call (ι.f 174) []), .p (.v 23) (.not (.t 22))]) (.ite (.v 23) (.seq (.reg [.p (.v 4) (.mv (.c (.bool false)))]) .ret)
  .skip)) (.seq (.reg [.p (.t 24) (.mv (.v 1)), .p (.t 25) (.dv .rem .u8 (.t 24) (.c (.int .u8 7))), .p (.t 26) (.ii .i64 (.t 25)), .p (.v 5) (.mv (.t 26))]) (.seq (.reg [.p (.v 6) (.mv (.c (.slice
  .none 0 0)))]) (.seq (.seq (.reg [.p (.v 7) (.mv (.c (.int .i64 0)))]) (.blk 0 (.loop (.seq (.seq (.reg [.p (.t 27) (.mv (.v 7)), .p (.t 28) (.mv (.v 0)), .p (.t 29) (.m (.lenl (.t 28))), .p (.t 30)
  (.cm .lss .i64 (.t 27) (.t 29)), .p (.t 31) (.mv (.t 30)), .gp (.t 32) (.t 31) true (.mv (.v 7)), .gp (.t 33) (.t 31) true (.cm .lss .i64 (.t 32) (.c (.int .i64 10))), .p (.t 34) (.pick (.t 31) (.t
  33) (.c (.bool false))), .p (.t 35) (.mv (.t 34)), .gp (.t 36) (.t 35) true (.mv (.v 5)), .gp (.t 37) (.t 35) true (.cm .gtr .i64 (.t 36) (.c (.int .i64 1))), .p (.v 38) (.pick (.t 35) (.t 37) (.c
  (.bool false)))]) (.ite (.v 38) .skip (.exit 0))) (.seq (.blk 1 (.seq (.reg [.p (.t 41) (.mv (.v 0)), .p (.t 42) (.mv (.v 7)), .p (.t 43) (.is 2 (.t 41) (.t 42)), .p (.t 44) (.ia 2 1 (.t 43) (.c (.int
  .i64 0))), .p (.t 45) (.ld (.t 44)), .p (.t 46) (.ii .i64 (.t 45)), .p (.t 47) (.mv (.v 5)), .p (.t 48) (.dv .rem .i64 (.t 46) (.t 47)), .p (.t 49) (.mv (.v 0)), .p (.t 50) (.mv (.v 7)), .p (.t 51)
  (.is 2 (.t 49) (.t 50)), .p (.t 52) (.ia 2 1 (.t 51) (.c (.int .i64 1))), .p (.t 53) (.ld (.t 52)), .p (.t 54) (.ii .i64 (.t 53)), .p (.t 55) (.mv (.v 5)), .p (.t 56) (.dv .rem .i64 (.t 54) (.t 55)),
  .p (.v 8) (.mv (.t 48)), .p (.v 9) (.mv (.t 56))]) (.seq (.reg [.p (.t 57) (.mv (.v 8)), .p (.t 58) (.mv (.v 9)), .p (.v 59) (.cm .neq .i64 (.t 57) (.t 58))]) (.ite (.v 59) (.reg [.p (.t 60) (.mv (.v
  6)), .p (.t 61) (.mv (.v 8)), .p (.t 62) (.mv (.v 9)), .p (.t 63) (.m (.mn (.t 61) (.t 62))), .p (.t 64) (.mv (.v 8)), .p (.t 65) (.mv (.v 9)), .p (.t 66) (.m (.mx (.t 64) (.t 65))), .p (.t 67) (.m
  (.bld #[.int .i64 0, .int .i64 0] [(0, (1, .t 63)), (1, (1, .t 66))])), .e (.t 68) (.bldF (ι.t 194) 2 1 [.t 67]), .e (.t 69) (.app false (ι.t 194) 2 16 #[.int .i64 0, .int .i64 0] (.t 60) (.t 68)), .p
  (.v 6) (.mv (.t 69))]) .skip)))) (.reg [.p (.t 39) (.mv (.v 7)), .p (.t 40) (.ar .add .i64 (.t 39) (.c (.int .i64 1))), .p (.v 7) (.mv (.t 40))])))))) (.seq (.reg [.p (.t 71) (.mv (.v 5)), .p (.t 72)
  (.mv (.v 6)), .e (.t 73) (.call (ι.f 201) [.t 71, .t 72]), .p (.t 70) (.mv (.t 73)), .p (.t 74) (.ext (.t 70) 0), .p (.t 75) (.ext (.t 70) 1), .p (.v 10) (.mv (.t 74)), .p (.v 11) (.mv (.t 75))])
  (.seq (.seq (.reg [.p (.t 76) (.mv (.v 11)), .p (.v 77) (.cm .neq .i64 (.t 76) (.c (.int .i64 0)))]) (.ite (.v 77) (.seq (.reg [.p (.v 4) (.mv (.c (.bool false)))]) .ret) .skip)) (.seq (.reg [.p (.v
  12) (.mv (.c (.slice .none 0 0)))]) (.seq (.seq (.reg [.p (.v 78) (.mv (.v 5)), .p (.v 79) (.mv (.c (.int .i64 0)))]) (.blk 2 (.loop (.seq (.reg [.p (.v 80) (.cm .lss .i64 (.v 79) (.v 78))]) (.seq
  (.ite (.v 80) .skip (.exit 2)) (.seq (.blk 3 (.seq (.reg [.p (.t 81) (.mv (.v 79)), .p (.v 13) (.mv (.t 81))]) (.reg [.p (.t 82) (.mv (.v 12)), .p (.t 83) (.mv (.v 10)), .p (.t 84) (.mv (.v 13)), .e
  (.t 85) (.call (ι.f 207) [.t 83, .t 84]), .e (.t 86) (.bldF (ι.t 128) 1 1 [.t 85]), .e (.t 87) (.app false (ι.t 128) 1 24 #[.slice .none 0 0] (.t 82) (.t 86)), .p (.v 12) (.mv (.t 87))]))) (.reg [.p
  (.t 88) (.ar .add .i64 (.v 79) (.c (.int .i64 1))), .p (.v 79) (.mv (.t 88))]))))))) (.seq (.reg [.p (.t 90) (.mv (.v 12)), .e (.t 91) (.call (ι.f 150) [.t 90]), .p (.t 89) (.mv (.t 91)), .p (.t 92)
  (.ext (.t 89) 0), .p (.t 93) (.ext (.t 89) 1), .p (.v 14) (.mv (.t 92)), .p (.v 15) (.mv (.t 93))]) (.seq (.reg [.p (.v 16) (.mv (.c (.int .i64 0)))]) (.seq (.seq (.reg [.p (.t 94) (.mv (.v 5)), .p
  (.v 95) (.sh .shl .i64 (.c (.int .i64 1)) (.t 94)), .p (.v 96) (.mv (.c (.int .i64 0)))]) (.blk 4 (.loop (.seq (.reg [.p (.v 97) (.cm .lss .i64 (.v 96) (.v 95))]) (.seq (.ite (.v 97) .skip (.exit 4))
  (.seq (.blk 5 (.seq (.reg [.p (.t 98) (.mv (.v 96)), .p (.v 17) (.mv (.t 98))]) (.seq (.reg [.p (.v 18) (.mv (.c (.int .i64 0))), .p (.v 19) (.mv (.c (.bool true)))]) (.seq (.seq (.reg [.p (.v 99)
  (.mv (.v 5)), .p (.v 100) (.mv (.c (.int .i64 0)))]) (.blk 6 (.loop (.seq (.reg [.p (.v 101) (.cm .lss .i64 (.v 100) (.v 99))]) (.seq (.ite (.v 101) .skip (.exit 6)) (.seq (.blk 7 (.seq (.reg [.p (.t
  102) (.mv (.v 100)), .p (.v 20) (.mv (.t 102))]) (.seq (.seq (.reg [.p (.t 103) (.mv (.v 17)), .p (.t 104) (.mv (.v 20)), .p (.t 105) (.sh .shr .i64 (.t 103) (.t 104)), .p (.t 106) (.bt .and .i64 (.t
  105) (.c (.int .i64 1))), .p (.v 107) (.cm .eql .i64 (.t 106) (.c (.int .i64 0)))]) (.ite (.v 107) (.exit 7) .skip)) (.seq (.reg [.p (.t 108) (.mv (.v 18)), .p (.t 109) (.ar .add .i64 (.t 108) (.c
  (.int .i64 1))), .p (.v 18) (.mv (.t 109))]) (.seq (.reg [.p (.v 110) (.mv (.v 5)), .p (.v 111) (.mv (.c (.int .i64 0)))]) (.blk 8 (.loop (.seq (.reg [.p (.v 112) (.cm .lss .i64 (.v 111) (.v 110))])
  (.seq (.ite (.v 112) .skip (.exit 8)) (.seq (.blk 9 (.seq (.reg [.p (.t 113) (.mv (.v 111)), .p (.v 21) (.mv (.t 113))]) (.reg [.p (.t 114) (.mv (.v 19)), .p (.t 115) (.mv (.t 114)), .gp (.t 116) (.t
  115) true (.mv (.v 17)), .gp (.t 117) (.t 115) true (.mv (.v 21)), .gp (.t 118) (.t 115) true (.sh .shr .i64 (.t 116) (.t 117)), .gp (.t 119) (.t 115) true (.bt .and .i64 (.t 118) (.c (.int .i64 1))),
  .gp (.t 120) (.t 115) true (.cm .eql .i64 (.t 119) (.c (.int .i64 1))), .gp (.t 121) (.t 115) true (.mv (.t 120)), .gp (.t 122) (.t 121) true (.mv (.v 10)), .gp (.t 123) (.t 121) true (.mv (.v 20)),
  .ge (.t 124) (.t 121) true (.call (ι.f 207) [.t 122, .t 123]), .gp (.t 125) (.t 121) true (.mv (.v 21)), .ge (.t 126) (.t 121) true (.call (ι.f 130) [.t 124, .t 125]), .gp (.t 127) (.t 115) true
  (.pick (.t 121) (.t 126) (.c (.bool false))), .gp (.t 128) (.t 115) true (.not (.t 127)), .p (.t 129) (.pick (.t 115) (.t 128) (.c (.bool false))), .p (.v 19) (.mv (.t 129))]))) (.reg [.p (.t 130)
  (.ar .add .i64 (.v 111) (.c (.int .i64 1))), .p (.v 111) (.mv (.t 130))]))))))))))) (.reg [.p (.t 131) (.ar .add .i64 (.v 100) (.c (.int .i64 1))), .p (.v 100) (.mv (.t 131))]))))))) (.seq (.reg [.p
  (.v 132) (.mv (.v 19))]) (.ite (.v 132) (.reg [.p (.t 133) (.mv (.v 16)), .p (.t 134) (.mv (.v 18)), .p (.t 135) (.m (.mx (.t 133) (.t 134))), .p (.v 16) (.mv (.t 135))]) .skip)))))) (.reg [.p (.t
  136) (.ar .add .i64 (.v 96) (.c (.int .i64 1))), .p (.v 96) (.mv (.t 136))]))))))) (.seq (.reg [.p (.t 137) (.mv (.v 15)), .p (.t 138) (.cm .eql .i64 (.t 137) (.c (.int .i64 0))), .p (.t 139) (.mv (.t
  138)), .gp (.t 140) (.t 139) true (.mv (.v 5)), .gp (.t 141) (.t 139) true (.mv (.v 14)), .gp (.t 142) (.t 139) true (.ar .sub .i64 (.t 140) (.t 141)), .gp (.t 143) (.t 139) true (.mv (.v 16)), .gp
  (.t 144) (.t 139) true (.cm .eql .i64 (.t 142) (.t 143)), .p (.t 145) (.pick (.t 139) (.t 144) (.c (.bool false))), .p (.v 4) (.mv (.t 145))]) .ret))))))))))))
def r_lchains : List RV := [.t 4]

theorem acy_up {R : Nat → Nat → Bool} (h : ∀ a b, R a b = true → a < b) : Acy R := by
  have key : ∀ {a b}, Tc R a b → a < b := by
    intro a b t
    induction t with
    | one t => exact h _ _ t
    | more t _ ih => exact Nat.lt_trans (h _ _ t) ih
  exact fun a t => Nat.lt_irrefl _ (key t)
theorem shl_n : ∀ n : Fin 7, IntKind.i64.wrap (1 * 2 ^ n.val) = ((2 ^ n.val : Nat) : Int) := by decide +kernel
theorem shr_bit : ∀ s : Fin 128, ∀ b : Fin 7, bits .and .i64 ((s.val : Int) / 2 ^ b.val) 1 = if s.val.testBit b.val then 1 else 0 := by decide +kernel
theorem cell_ldNA {H : Hp} {b o n : Nat} {l : List Value} (h : ldNA H ⟨b, o, none⟩ n = some l.toArray) {j : Nat} (hj : j < n) : cell H ⟨b, o + j, none⟩ = l[j]? := by
  unfold ldNA at h
  simp only [Option.isSome_none, Bool.false_eq_true, if_false] at h
  split at h
  · rename_i C T z hb
    split at h
    · rename_i hle
      have e := Option.some.inj h
      have e2 : l = (C.extract o (o + n)).toList := by rw [e]
      unfold cell
      simp only [hb, Option.isSome_none, Bool.false_eq_true, if_false]
      rw [e2, Array.toList_extract, List.extract_eq_take_drop, List.getElem?_take, if_pos (by omega), List.getElem?_drop]
      simp
    · cases h
  · cases h
theorem GrO.app' {T : TypeId} {bytes : Nat} {z : Array Value} {v x u : Value} {H : Hp} {K : Value → Hp → Prop} {ps : List (Nat → Bool)} {B : Nat} {vs : List Value} {p : Nat → Bool} (h : GrO H v ps B vs) (hx : SlR H x [u]) (hu : SetM H (.agg #[u]) p)
    (hz : z.size = 1) (h1 : ps.length ≤ 100000) (hb : bytes ≤ 1000) (hB : B ≤ H.size) (hub : ∀ k, slB u k → B ≤ k ∧ ¬ ownB v k)
    (hK : ∀ v' H', GrO H' v' (ps ++ [p]) B (vs ++ [u]) → Keep (ownB v) H H' → (∀ q, ownB v' q → ownB v q ∨ H.size ≤ q) → K v' H') : AppC false T 1 bytes z v x H K := by
  have hone : all1 #[u] := by obtain ⟨v, W, e, h⟩ := hu; cases e; exact h.sl.one
  have hvl := h.len
  have hbb : (vs.length + 1) * bytes ≤ 140737488355328 := by
    have : (vs.length + 1) * bytes ≤ 100001 * 1000 := Nat.mul_le_mul (by omega) hb
    omega
  have A1 : AppC false T 1 bytes z v x H fun v' H' => GrO H' v' (ps ++ [p]) B (vs ++ [u]) ∧ Keep (ownB v) H H' := GrO.app h hx hu hz h1 hb hB hub fun v' H' g k => ⟨g, k⟩
  have A2 : AppC false T 1 bytes z v x H fun v' H' => ∀ q, ownB v' q → ownB v q ∨ H.size ≤ q := app_sl (l := vs) (m := [u]) h.ow hx hone hz (by unfold maxLen; simp only [List.length_singleton]; omega) (by simpa using hbb) fun v' H' _ _ n => n
  obtain ⟨c1, n1, c2, c3, c4⟩ := A1
  obtain ⟨_, n2, d2, d3, d4⟩ := A2
  have en : n1 = n2 := Option.some.inj (c2.symm.trans d2)
  subst en
  refine ⟨c1, n1, c2, fun hl => ⟨(c3 hl).1, hK _ _ (c3 hl).2.1 (c3 hl).2.2 (d3 hl).2⟩, fun hl => ?_⟩
  obtain ⟨o1, e1, e2⟩ := c4 hl
  obtain ⟨o2, g1, g2⟩ := d4 hl
  have eo : o1 = o2 := Option.some.inj (e1.symm.trans g1)
  subst eo
  exact ⟨o1, e1, fun c hc => hK _ _ (e2 c hc).1 (e2 c hc).2 (g2 c hc)⟩
structure MChain (P : Program) (ι : Ids) : Prop where
  aw : MAwakeSpec P ι (ι.f 174)
  nw : ONewSpec P ι (ι.f 201)
  bl : OBlwSpec P (ι.f 207)
  ha : HasSpec P (ι.f 130)
  sz : MSizeSpec P ι (ι.f 150)
def LChSpec (P : Program) (ι : Ids) (k : FuncId) : Prop := ∀ (ws : List (List UInt8)) (a : UInt8) (v : Value) (H : Hp), TabOk ι H → WdR 2 H v ws → CallsM P k #[v, .int .u8 a.toNat] H fun r H' => r = .bool true ∧ Keep (fun _ => False) H H'
theorem lchains_ok {P : Program} {ι : Ids} {k : FuncId} (hk : FnIs P k (c_lchains ι) r_lchains 2) (h : MChain P ι) : LChSpec P ι k := by
  intro ws a v H hT hv
  obtain ⟨Q, hQ⟩ : ∃ Q : Value → Hp → Prop, Q = fun r H' => r = .bool true ∧ Keep (fun _ => False) H H' := ⟨_, rfl⟩
  rw [← hQ]
  refine calls_of_vc hk (args := [_, _]) (by simp) ?_
  unfold c_lchains r_lchains
  have et : Int.tmod (a.toNat : Int) 7 = ((a.toNat % 7 : Nat) : Int) := rfl
  obtain ⟨n, hn⟩ : ∃ n, n = a.toNat % 7 := ⟨_, rfl⟩
  have hn7 : n < 7 := by omega
  have wu8 : IntKind.u8.wrap (n : Int) = (n : Int) := by rw [IntKind.wrap_u8]; omega
  have w64 : IntKind.i64.wrap (n : Int) = (n : Int) := IntWalk.i64_in _ (by omega)
  simp only [go_sem, List.map_cons, List.map_nil, ↓reduceIte, Nat.reduceEqDiff, Nat.reduceAdd, Nat.reduceMul, reduceCtorEq, and_true, true_and, Nat.mul_one, Nat.zero_add, Bool.false_eq_true, decide_true, decide_false, not_false_eq_true, kont_eq]
  refine (h.aw H hT).mono ?_
  rintro r H1 ⟨rfl, K1⟩
  rw [kont_eq]
  simp only [go_sem, List.map_cons, List.map_nil, ↓reduceIte, Nat.reduceEqDiff, Nat.reduceAdd, Nat.reduceMul, reduceCtorEq, and_true, true_and, Nat.mul_one, Nat.zero_add, Bool.false_eq_true, decide_true, decide_false, not_false_eq_true, kont_eq, et, ← hn, wu8, w64, Bool.not_true]
  refine ⟨by decide, ?_⟩
  have s1 := K1.size
  obtain ⟨va, vc', rfl, hvc, hve⟩ := hv
  refine vc_mono (Q := fun e f A => e = .x 0 ∧ f 5 = .int .i64 (n : Int) ∧ ∃ (ll : List (Int × Int)) (lv : Value), f 6 = lv ∧ OwE pE 2 A lv ll ∧ ll.length ≤ 10 ∧ (∀ p ∈ ll, 0 ≤ p.1 ∧ p.1 < p.2 ∧ p.2 < n) ∧ (∀ q, ownB lv q → H.size ≤ q) ∧ Keep (fun _ => False) H A) ?_ ?_
  rotate_left
  · refine vc_loop [38, 8, 9, 59, 6, 7] rfl (fun m f A => ∃ (i : Nat) (ll : List (Int × Int)) (lv : Value), i ≤ ws.length ∧ i ≤ 10 ∧ m = ws.length - i ∧ f 7 = .int .i64 i ∧ f 6 = lv ∧ OwE pE 2 A lv ll ∧ ll.length ≤ i ∧ (∀ p ∈ ll, 0 ≤ p.1 ∧ p.1 < p.2 ∧ p.2 < n) ∧ (∀ q, ownB lv q → H.size ≤ q) ∧ Keep (fun _ => False) H A) ws.length ?_ ?_
    · exact ⟨0, [], _, by omega, by omega, by omega, by simp only [go_sem, List.map_cons, List.map_nil, ↓reduceIte, Nat.reduceEqDiff, Nat.reduceAdd, Nat.reduceMul, reduceCtorEq, and_true, true_and, Nat.mul_one, Nat.zero_add, Bool.false_eq_true, decide_true, decide_false, not_false_eq_true, kont_eq]; rfl, by simp only [go_sem, List.map_cons, List.map_nil, ↓reduceIte, Nat.reduceEqDiff, Nat.reduceAdd, Nat.reduceMul, reduceCtorEq, and_true, true_and, Nat.mul_one, Nat.zero_add, Bool.false_eq_true, decide_true, decide_false, not_false_eq_true, kont_eq], OwE.nil _, by simp, by simp, fun q h => h.elim, K1⟩
    rintro m f H2 ⟨i, ll, lv, hi, hi10, rfl, hf, hf6, O2, hll, hpl, own2, K2⟩
    simp only [go_sem, List.map_cons, List.map_nil, ↓reduceIte, Nat.reduceEqDiff, Nat.reduceAdd, Nat.reduceMul, reduceCtorEq, and_true, true_and, Nat.mul_one, Nat.zero_add, Bool.false_eq_true, decide_true, decide_false, not_false_eq_true, kont_eq] at hf hf6
    have s2 := K2.size
    by_cases hc1 : i < ws.length
    · have c1 : decide ((i : Int) < (ws.length : Int)) = true := decide_eq_true (by omega)
      by_cases hc2 : i < 10
      · have c2 : decide ((i : Int) < 10) = true := decide_eq_true (by omega)
        by_cases hc3 : 1 < n
        · have c3 : decide ((n : Int) > 1) = true := decide_eq_true (by omega)
          have hlt : i < ws.length := hc1
          obtain ⟨hl2, pb, po, rfl, hpb, hld⟩ := hve i hlt
          have hld2 : ldNA H2 ⟨pb, po + i * 2, none⟩ 2 = some (w8 (ws.getD i [])).toArray := by rw [K2.ldNA (p := ⟨pb, po + i * 2, none⟩) hpb (by simp)]; exact hld
          obtain ⟨x, y, hxy⟩ : ∃ x y : UInt8, ws.getD i [] = [x, y] := by
            generalize ws.getD i [] = l at hl2
            match l, hl2 with
            | [x, y], _ => exact ⟨x, y, rfl⟩
          rw [hxy] at hld2
          have cx : cell H2 ⟨pb, po + i * 2, none⟩ = some (.int .u8 x.toNat) := cell_ldNA hld2 (j := 0) (by omega)
          have cy : cell H2 ⟨pb, po + i * 2 + 1, none⟩ = some (.int .u8 y.toNat) := cell_ldNA hld2 (j := 1) (by omega)
          have wx : ∀ z : UInt8, IntKind.i64.wrap (z.toNat : Int) = (z.toNat : Int) := fun z => IntWalk.i64_in _ (by have := z.toNat_lt; omega)
          have tx : ∀ z : UInt8, Int.tmod (z.toNat : Int) (n : Int) = ((z.toNat % n : Nat) : Int) := fun z => rfl
          have wt : ∀ z : UInt8, IntKind.i64.wrap ((z.toNat % n : Nat) : Int) = ((z.toNat % n : Nat) : Int) := fun z => IntWalk.i64_in _ (by have := z.toNat_lt; have := Nat.mod_le z.toNat n; omega)
          have hxn : x.toNat % n < n := Nat.mod_lt _ (by omega)
          have hyn : y.toNat % n < n := Nat.mod_lt _ (by omega)
          have n0 : ((n : Nat) : Int) ≠ 0 := by omega
          simp only [go_sem, List.map_cons, List.map_nil, ↓reduceIte, Nat.reduceEqDiff, Nat.reduceAdd, Nat.reduceMul, reduceCtorEq, and_true, true_and, Nat.mul_one, Nat.zero_add, Bool.false_eq_true, decide_true, decide_false, not_false_eq_true, hf, hf6, c1, c2, c3, tn_cast, cx, cy, wx, tx, wt, w64]
          generalize x.toNat % n = xa at hxn ⊢
          generalize y.toNat % n = ya at hyn ⊢
          refine ⟨by omega, by omega, n0, by omega, by omega, n0, ?_⟩
          have hkd : ∀ x : Int, kindOf (Value.int .i64 x) = .i64 := fun _ => rfl
          by_cases hxy' : xa = ya
          · have e0 : ((xa : Int) != (ya : Int)) = false := by rw [hxy']; simp
            simp (disch := omega) only [go_sem, List.map_cons, List.map_nil, ↓reduceIte, Nat.reduceEqDiff, Nat.reduceAdd, Nat.reduceMul, reduceCtorEq, and_true, true_and, Nat.mul_one, Nat.zero_add, Bool.false_eq_true, decide_true, decide_false, not_false_eq_true, kont_eq, e0, hf, hf6, IntWalk.i64_in]
            exact ⟨ws.length - (i + 1), by omega, i + 1, ll, lv, by omega, by omega, rfl, rfl, rfl, O2, by omega, hpl, own2, K2⟩
          · have e0 : ((xa : Int) != (ya : Int)) = true := by rw [bne_iff_ne]; omega
            obtain ⟨mn, hmn⟩ : ∃ mn : Int, mn = if (ya : Int) < (xa : Int) then (ya : Int) else (xa : Int) := ⟨_, rfl⟩
            obtain ⟨mx, hmx⟩ : ∃ mx : Int, mx = if (ya : Int) > (xa : Int) then (ya : Int) else (xa : Int) := ⟨_, rfl⟩
            have hmm : 0 ≤ mn ∧ mn < mx ∧ mx < n := by rw [hmn, hmx]; split <;> split <;> omega
            simp only [go_sem, List.map_cons, List.map_nil, ↓reduceIte, Nat.reduceEqDiff, Nat.reduceAdd, Nat.reduceMul, reduceCtorEq, and_true, true_and, Nat.mul_one, Nat.zero_add, Bool.false_eq_true, decide_true, decide_false, not_false_eq_true, fillV_nil, fillV_cons, okFill_nil, okFill_cons, cells_slice, cells_int, cells_bool, cells_str, cells_ptr, cells_agg, stNH_ptr, okN_ptr, wrA1, wrA20, wrA21, e0, hkd, ← hmn, ← hmx, hf6]
            refine ⟨by omega, ?_⟩
            refine kont_news fun H3 b3 e3 z3 B3 K3 => ?_
            have s3 := K3.size
            simp only [go_sem, List.map_cons, List.map_nil, ↓reduceIte, Nat.reduceEqDiff, Nat.reduceAdd, Nat.reduceMul, reduceCtorEq, and_true, true_and, Nat.mul_one, Nat.zero_add, Bool.false_eq_true, decide_true, decide_false, not_false_eq_true, kont_eq]
            have hx3 : SlE pE 2 H3 (.slice (some ⟨b3, 0, none⟩) 1 1) [(mn, mx)] := SlE.bl B3 (l := [(mn, mx)]) rfl (by simp) (by simp)
            refine app_EN (l := ll) (m := [(mn, mx)]) H.size pE_len pE_one (O2.keep K3 (by simp)) own2 (by omega) hx3 rfl (by omega) (by simp; omega) fun v4 H4 O4 own4 K4 => ?_
            simp (disch := omega) only [go_sem, List.map_cons, List.map_nil, ↓reduceIte, Nat.reduceEqDiff, Nat.reduceAdd, Nat.reduceMul, reduceCtorEq, and_true, true_and, Nat.mul_one, Nat.zero_add, Bool.false_eq_true, decide_true, decide_false, not_false_eq_true, kont_eq, hf, IntWalk.i64_in]
            refine ⟨ws.length - (i + 1), by omega, i + 1, ll ++ [(mn, mx)], _, by omega, by omega, rfl, rfl, rfl, O4, by simp; omega, fun p hp => ?_, own4, (K2.trans K3).at_old K4 (Nat.le_refl _)⟩
            rcases List.mem_append.1 hp with hp | hp
            · exact hpl p hp
            · simp only [List.mem_singleton] at hp; subst hp; exact hmm
        · have c3 : decide ((n : Int) > 1) = false := decide_eq_false (by omega)
          simp only [go_sem, List.map_cons, List.map_nil, ↓reduceIte, Nat.reduceEqDiff, Nat.reduceAdd, Nat.reduceMul, reduceCtorEq, and_true, true_and, Nat.mul_one, Nat.zero_add, Bool.false_eq_true, decide_true, decide_false, not_false_eq_true, kont_eq, hf, hf6, c1, c2, c3, tn_cast]
          exact ⟨ll, lv, rfl, O2, by omega, hpl, own2, K2⟩
      · have c2 : decide ((i : Int) < 10) = false := decide_eq_false (by omega)
        simp only [go_sem, List.map_cons, List.map_nil, ↓reduceIte, Nat.reduceEqDiff, Nat.reduceAdd, Nat.reduceMul, reduceCtorEq, and_true, true_and, Nat.mul_one, Nat.zero_add, Bool.false_eq_true, decide_true, decide_false, not_false_eq_true, kont_eq, hf, hf6, c1, c2, tn_cast]
        exact ⟨ll, lv, rfl, O2, by omega, hpl, own2, K2⟩
    · have c1 : decide ((i : Int) < (ws.length : Int)) = false := decide_eq_false (by omega)
      simp only [go_sem, List.map_cons, List.map_nil, ↓reduceIte, Nat.reduceEqDiff, Nat.reduceAdd, Nat.reduceMul, reduceCtorEq, and_true, true_and, Nat.mul_one, Nat.zero_add, Bool.false_eq_true, decide_true, decide_false, not_false_eq_true, kont_eq, hf, hf6, c1, tn_cast]
      exact ⟨ll, lv, rfl, O2, by omega, hpl, own2, K2⟩
  rintro e f H2 ⟨rfl, hf5, ll, lv, hf6, O2, hll, hpl, own2, K2⟩
  have s2 := K2.size
  simp only [go_sem, List.map_cons, List.map_nil, ↓reduceIte, Nat.reduceEqDiff, Nat.reduceAdd, Nat.reduceMul, reduceCtorEq, and_true, true_and, Nat.mul_one, Nat.zero_add, Bool.false_eq_true, decide_true, decide_false, not_false_eq_true, kont_eq, hf5, hf6]
  have hbn : ¬ badN (n : Int) := by unfold badN; omega
  have hok : ∀ p ∈ ll, okP (n : Int) p := fun p hp => by have := hpl p hp; unfold okP; omega
  have hup : ∀ a b, relI ll a b = true → a < b := fun a b hr => by
    unfold relI at hr
    have := hpl _ (of_decide_eq_true hr)
    simp only at this; omega
  have hA := acy_up hup
  refine (h.nw (n : Int) ll lv H2 (hT.keep K2) O2.sl (by omega)).mono ?_
  rintro r H3 ⟨hr, K3⟩
  obtain ⟨ov, rfl, hO⟩ : ∃ ov, r = .tuple #[ov, .int .i64 0] ∧ OrdV H3 ov n (relI ll) := by
    rcases hr with ⟨h', _⟩ | ⟨_, h', _⟩ | ⟨_, _, h', _⟩ | ⟨_, _, _, pv, h1, h2⟩
    · exact absurd h' hbn
    · exact absurd hok h'
    · exact absurd hA h'
    · exact ⟨pv, h1, by rw [Int.toNat_natCast] at h2; exact h2⟩
  obtain ⟨R, hRd⟩ : ∃ R, R = relI ll := ⟨_, rfl⟩
  rw [← hRd] at hA hO
  have hR : Rng n R := hO.2.1
  have s3 := K3.size
  have hdb := hO.db
  have K03 := K2.trans K3
  have d0 : ((0 : Int) != 0) = false := rfl
  simp only [go_sem, List.map_cons, List.map_nil, ↓reduceIte, Nat.reduceEqDiff, Nat.reduceAdd, Nat.reduceMul, reduceCtorEq, and_true, true_and, Nat.mul_one, Nat.zero_add, Bool.false_eq_true, decide_true, decide_false, not_false_eq_true, kont_eq, d0]
  obtain ⟨pf, hpf⟩ : ∃ pf : Nat → Nat → Bool, pf = fun i : Nat => blwO (some (n, R)) (i : Int) := ⟨_, rfl⟩
  refine vc_mono (Q := fun e f A => e = .x 2 ∧ f 5 = .int .i64 (n : Int) ∧ f 10 = ov ∧ ∃ gv gvs, f 12 = gv ∧ GrO A gv ((List.range n).map pf) 0 gvs ∧ Keep (fun _ => False) H3 A) ?_ ?_
  rotate_left
  · refine vc_loop [80, 13, 12, 79] rfl (fun m f A => ∃ (i : Nat) (gv : Value) (gvs : List Value), i ≤ n ∧ m = n - i ∧ f 79 = .int .i64 i ∧ f 12 = gv ∧ GrO A gv ((List.range i).map pf) 0 gvs ∧ (∀ q, ownB gv q → H3.size ≤ q) ∧ Keep (fun _ => False) H3 A) n ?_ ?_
    · exact ⟨0, _, [], by omega, by omega, by simp only [go_sem, List.map_cons, List.map_nil, ↓reduceIte, Nat.reduceEqDiff, Nat.reduceAdd, Nat.reduceMul, reduceCtorEq, and_true, true_and, Nat.mul_one, Nat.zero_add, Bool.false_eq_true, decide_true, decide_false, not_false_eq_true, kont_eq]; rfl, by simp only [go_sem, List.map_cons, List.map_nil, ↓reduceIte, Nat.reduceEqDiff, Nat.reduceAdd, Nat.reduceMul, reduceCtorEq, and_true, true_and, Nat.mul_one, Nat.zero_add, Bool.false_eq_true, decide_true, decide_false, not_false_eq_true, kont_eq], GrO.nil _ _, fun q h => h.elim, Keep.refl _ _⟩
    rintro m g H4 ⟨i, gv, gvs, hi, rfl, hf, hf12, G4, own4, K4⟩
    simp only [go_sem, List.map_cons, List.map_nil, ↓reduceIte, Nat.reduceEqDiff, Nat.reduceAdd, Nat.reduceMul, reduceCtorEq, and_true, true_and, Nat.mul_one, Nat.zero_add, Bool.false_eq_true, decide_true, decide_false, not_false_eq_true, kont_eq] at hf hf12
    have s4 := K4.size
    simp only [go_sem, List.map_cons, List.map_nil, ↓reduceIte, Nat.reduceEqDiff, Nat.reduceAdd, Nat.reduceMul, reduceCtorEq, and_true, true_and, Nat.mul_one, Nat.zero_add, Bool.false_eq_true, decide_true, decide_false, not_false_eq_true, hf, hf5]
    refine iteV_dec (fun hlt => ?_) (fun hge => ?_)
    · simp only [go_sem, List.map_cons, List.map_nil, ↓reduceIte, Nat.reduceEqDiff, Nat.reduceAdd, Nat.reduceMul, reduceCtorEq, and_true, true_and, Nat.mul_one, Nat.zero_add, Bool.false_eq_true, decide_true, decide_false, not_false_eq_true, kont_eq, hf, hf12]
      refine (h.bl (some (n, R)) ov (i : Int) H4 (OrdV.keep0 hO K4)).mono ?_
      rintro r H5 ⟨S5, K5, hb5⟩
      obtain ⟨u, Wd, rfl, hV5⟩ := S5
      have s5 := K5.size
      rw [kont_eq]
      simp only [go_sem, List.map_cons, List.map_nil, ↓reduceIte, Nat.reduceEqDiff, Nat.reduceAdd, Nat.reduceMul, reduceCtorEq, and_true, true_and, Nat.mul_one, Nat.zero_add, Bool.false_eq_true, decide_true, decide_false, not_false_eq_true, fillV_nil, fillV_cons, okFill_nil, okFill_cons, cells_slice, cells_int, cells_bool, cells_str, cells_ptr, cells_agg, stNH_ptr, okN_ptr, wrA1, wrA20, wrA21]
      refine kont_news fun H6 b6 e6 z6 B6 K6 => ?_
      have s6 := K6.size
      have B6' : Bl H6 b6 [u] := B6
      simp only [go_sem, List.map_cons, List.map_nil, ↓reduceIte, Nat.reduceEqDiff, Nat.reduceAdd, Nat.reduceMul, reduceCtorEq, and_true, true_and, Nat.mul_one, Nat.zero_add, Bool.false_eq_true, decide_true, decide_false, not_false_eq_true, kont_eq]
      have hub : ∀ q, slB u q → 0 ≤ q ∧ ¬ ownB gv q := fun q hq => ⟨Nat.zero_le _, fun hq' => by
        have h1 := hb5 _ (hdb.keep0 hO K4) q hq
        have h2 := own4 q hq'
        omega⟩
      refine GrO.app' ((G4.keep0 K5).keep0 K6) (SlR.bl B6' 0 1 1 (by omega) (by simp)) ⟨u, Wd, rfl, hV5.keep K6 (by simp)⟩ rfl (by rw [List.length_map, List.length_range]; omega) (by omega) (Nat.zero_le _) hub fun v7 H7 G7 M7 own7 => ?_
      simp (disch := omega) only [go_sem, List.map_cons, List.map_nil, ↓reduceIte, Nat.reduceEqDiff, Nat.reduceAdd, Nat.reduceMul, reduceCtorEq, and_true, true_and, Nat.mul_one, Nat.zero_add, Bool.false_eq_true, decide_true, decide_false, not_false_eq_true, kont_eq, hf, IntWalk.i64_in]
      refine ⟨n - (i + 1), by omega, i + 1, _, gvs ++ [u], by omega, rfl, rfl, rfl, ?_, fun q hq => ?_, ((K4.trans K5).trans K6).trans' M7 (fun j hj h => by have := own4 j h; omega)⟩
      · rw [List.range_succ, List.map_append, List.map_cons, List.map_nil, hpf]; rw [hpf] at G7; exact G7
      · rcases own7 q hq with h' | h'
        · exact own4 q h'
        · omega
    · have : i = n := by omega
      subst this
      exact ⟨gv, gvs, hf12, G4, K4⟩
  rintro e F H4 ⟨rfl, hf5, hf10, gv, gvs, hf12, G4, K4⟩
  have K04 := K03.trans K4
  simp only [go_sem, List.map_cons, List.map_nil, ↓reduceIte, Nat.reduceEqDiff, Nat.reduceAdd, Nat.reduceMul, reduceCtorEq, and_true, true_and, Nat.mul_one, Nat.zero_add, Bool.false_eq_true, decide_true, decide_false, not_false_eq_true, kont_eq, hf5, hf10, hf12]
  refine (h.sz _ gv _ H4 (hT.keep K04) G4.toM (by rw [List.length_map, List.length_range]; omega)).mono ?_
  intro r H5 hp
  obtain ⟨⟨sz, rfl, hsz⟩, K5⟩ := hp.gen
  have hpl' : ((List.range n).map pf).length = n := by simp
  have hpg : ∀ i, i < n → ((List.range n).map pf).getD i (fun _ => false) = fun x => tcB R i x := fun i hi => by
    rw [List.getD_eq_getElem?_getD, List.getElem?_map, List.getElem?_range hi, hpf]
    funext x
    show blwO (some (n, R)) (i : Int) x = _
    unfold blwO inO
    have h1 : decide (0 ≤ (i : Int)) = true := decide_eq_true (by omega)
    have h2 : decide ((i : Int) < ((n : Nat) : Int)) = true := decide_eq_true (by omega)
    simp [hi]
  have hlow : Low ((List.range n).map pf) := by
    refine ⟨by rw [hpl']; omega, fun p hp x hx => ?_⟩
    obtain ⟨i, hi, rfl⟩ := List.mem_map.1 hp
    have hi := List.mem_range.1 hi
    have e := hpg i hi
    rw [List.getD_eq_getElem?_getD, List.getElem?_map, List.getElem?_range hi] at e
    have e : pf i = fun x => tcB R i x := e
    rw [e] at hx
    have := (hR.tc (tcB_iff.1 hx)).2
    omega
  have h0 := hlow.chk
  obtain ⟨L, hszL, hMx⟩ : ∃ L, sz = cn n (mt (gi L)) ∧ Mx n 256 (Eg (gl ((List.range n).map pf))) (gi L) := by
    rcases hsz with ⟨h', _⟩ | ⟨_, h'⟩
    · exact absurd h0 h'
    · rwa [hpl'] at h'
  have hE : ∀ i < n, ∀ j, Eg (gl ((List.range n).map pf)) i j ↔ Tc R i j := fun i hi j => by rw [hlow.eg, hpg i hi, tcB_iff]
  have hbest := bestF_eq hR hA hMx (by omega) hE
  rw [h0]
  rw [kont_eq]
  have s5 := K5.size
  have hsh : IntKind.i64.wrap (1 * 2 ^ n) = ((2 ^ n : Nat) : Int) := shl_n ⟨n, hn7⟩
  have hN : 2 ^ n ≤ 64 := Nat.pow_le_pow_right (by omega) (by omega : n ≤ 6)
  simp only [go_sem, List.map_cons, List.map_nil, ↓reduceIte, Nat.reduceEqDiff, Nat.reduceAdd, Nat.reduceMul, reduceCtorEq, and_true, true_and, Nat.mul_one, Nat.zero_add, Bool.false_eq_true, decide_true, decide_false, not_false_eq_true, kont_eq, hf5, hsh]
  refine ⟨by omega, ?_⟩
  generalize 2 ^ n = N at hN hbest ⊢
  refine vc_loop [97, 17, 18, 19, 99, 100, 101, 20, 107, 110, 111, 112, 21, 132, 16, 96] rfl (fun m f A => ∃ s : Nat, s ≤ N ∧ m = N - s ∧ f 96 = .int .i64 s ∧ f 16 = .int .i64 (bestF n (tcB R) s : Int) ∧ Keep (fun _ => False) H5 A) N ?_ ?_
  · exact ⟨0, by omega, by omega, by simp only [go_sem, List.map_cons, List.map_nil, ↓reduceIte, Nat.reduceEqDiff, Nat.reduceAdd, Nat.reduceMul, reduceCtorEq, and_true, true_and, Nat.mul_one, Nat.zero_add, Bool.false_eq_true, decide_true, decide_false, not_false_eq_true, kont_eq]; rfl, by simp only [go_sem, List.map_cons, List.map_nil, ↓reduceIte, Nat.reduceEqDiff, Nat.reduceAdd, Nat.reduceMul, reduceCtorEq, and_true, true_and, Nat.mul_one, Nat.zero_add, Bool.false_eq_true, decide_true, decide_false, not_false_eq_true, kont_eq]; rfl, Keep.refl _ _⟩
  rintro m g H6 ⟨s, hs, rfl, hg, hg16, K6⟩
  simp only [go_sem, List.map_cons, List.map_nil, ↓reduceIte, Nat.reduceEqDiff, Nat.reduceAdd, Nat.reduceMul, reduceCtorEq, and_true, true_and, Nat.mul_one, Nat.zero_add, Bool.false_eq_true, decide_true, decide_false, not_false_eq_true, kont_eq] at hg hg16
  have s6 := K6.size
  simp only [go_sem, List.map_cons, List.map_nil, ↓reduceIte, Nat.reduceEqDiff, Nat.reduceAdd, Nat.reduceMul, reduceCtorEq, and_true, true_and, Nat.mul_one, Nat.zero_add, Bool.false_eq_true, decide_true, decide_false, not_false_eq_true, hg]
  refine iteV_dec (fun hlt => ?_) (fun hge => ?_)
  · have hsN : s < N := by omega
    have hbit : ∀ b, b < n → bits .and .i64 ((s : Int) / 2 ^ b) 1 = if s.testBit b then 1 else 0 := fun b hb => shr_bit ⟨s, by omega⟩ ⟨b, by omega⟩
    simp only [go_sem, List.map_cons, List.map_nil, ↓reduceIte, Nat.reduceEqDiff, Nat.reduceAdd, Nat.reduceMul, reduceCtorEq, and_true, true_and, Nat.mul_one, Nat.zero_add, Bool.false_eq_true, decide_true, decide_false, not_false_eq_true, kont_eq, hf5]
    refine vc_loop [101, 20, 107, 18, 110, 111, 112, 21, 19, 100] rfl (fun m f A => ∃ a : Nat, a ≤ n ∧ m = n - a ∧ f 100 = .int .i64 a ∧ f 18 = .int .i64 (cn a (fun i => s.testBit i) : Int) ∧ f 19 = .bool (freeA n (tcB R) s a) ∧ Keep (fun _ => False) H5 A) n ?_ ?_
    · exact ⟨0, by omega, by omega, by simp only [go_sem, List.map_cons, List.map_nil, ↓reduceIte, Nat.reduceEqDiff, Nat.reduceAdd, Nat.reduceMul, reduceCtorEq, and_true, true_and, Nat.mul_one, Nat.zero_add, Bool.false_eq_true, decide_true, decide_false, not_false_eq_true, kont_eq]; rfl, by simp only [go_sem, List.map_cons, List.map_nil, ↓reduceIte, Nat.reduceEqDiff, Nat.reduceAdd, Nat.reduceMul, reduceCtorEq, and_true, true_and, Nat.mul_one, Nat.zero_add, Bool.false_eq_true, decide_true, decide_false, not_false_eq_true, kont_eq]; rfl, by simp only [go_sem, List.map_cons, List.map_nil, ↓reduceIte, Nat.reduceEqDiff, Nat.reduceAdd, Nat.reduceMul, reduceCtorEq, and_true, true_and, Nat.mul_one, Nat.zero_add, Bool.false_eq_true, decide_true, decide_false, not_false_eq_true, kont_eq]; rfl, K6⟩
    rintro m f H7 ⟨a, ha, rfl, hf, hf18, hf19, K7⟩
    simp only [go_sem, List.map_cons, List.map_nil, ↓reduceIte, Nat.reduceEqDiff, Nat.reduceAdd, Nat.reduceMul, reduceCtorEq, and_true, true_and, Nat.mul_one, Nat.zero_add, Bool.false_eq_true, decide_true, decide_false, not_false_eq_true, kont_eq] at hf hf18 hf19
    have s7 := K7.size
    have hcn := cn_le a fun i => s.testBit i
    simp only [go_sem, List.map_cons, List.map_nil, ↓reduceIte, Nat.reduceEqDiff, Nat.reduceAdd, Nat.reduceMul, reduceCtorEq, and_true, true_and, Nat.mul_one, Nat.zero_add, Bool.false_eq_true, decide_true, decide_false, not_false_eq_true, hf]
    refine iteV_dec (fun hlt2 => ?_) (fun hge2 => ?_)
    · have han : a < n := by omega
      have eA : freeA n (tcB R) s (a + 1) = (freeA n (tcB R) s a && (!s.testBit a || (List.range n).all fun y => !(s.testBit y && tcB R a y))) := by
        unfold freeA
        rw [List.range_succ, List.all_append]
        simp
      cases hb : s.testBit a with
      | false =>
        have e0 : ((0 : Int) == 0) = true := rfl
        simp (disch := omega) only [go_sem, List.map_cons, List.map_nil, ↓reduceIte, Nat.reduceEqDiff, Nat.reduceAdd, Nat.reduceMul, reduceCtorEq, and_true, true_and, Nat.mul_one, Nat.zero_add, Bool.false_eq_true, decide_true, decide_false, not_false_eq_true, kont_eq, hf, hg, tn_cast, hbit a han, hb, e0, IntWalk.i64_in]
        refine ⟨by omega, n - (a + 1), by omega, a + 1, by omega, rfl, rfl, ?_, ?_, K7⟩
        · rw [hf18, cn_succ, hb]; simp
        · rw [hf19, eA, hb]; simp
      | true =>
        have e0 : ((1 : Int) == 0) = false := rfl
        simp (disch := omega) only [go_sem, List.map_cons, List.map_nil, ↓reduceIte, Nat.reduceEqDiff, Nat.reduceAdd, Nat.reduceMul, reduceCtorEq, and_true, true_and, Nat.mul_one, Nat.zero_add, Bool.false_eq_true, decide_true, decide_false, not_false_eq_true, kont_eq, hf, hf5, hf18, hf19, hg, tn_cast, hbit a han, hb, e0, IntWalk.i64_in]
        refine ⟨by omega, ?_⟩
        refine vc_loop [112, 21, 19, 111] rfl (fun m f A => ∃ j : Nat, j ≤ n ∧ m = n - j ∧ f 111 = .int .i64 j ∧ f 19 = .bool (freeA n (tcB R) s a && (List.range j).all fun y => !(s.testBit y && tcB R a y)) ∧ Keep (fun _ => False) H5 A) n ?_ ?_
        · exact ⟨0, by omega, by omega, by simp only [go_sem, List.map_cons, List.map_nil, ↓reduceIte, Nat.reduceEqDiff, Nat.reduceAdd, Nat.reduceMul, reduceCtorEq, and_true, true_and, Nat.mul_one, Nat.zero_add, Bool.false_eq_true, decide_true, decide_false, not_false_eq_true, kont_eq]; rfl, by simp only [go_sem, List.map_cons, List.map_nil, ↓reduceIte, Nat.reduceEqDiff, Nat.reduceAdd, Nat.reduceMul, reduceCtorEq, and_true, true_and, Nat.mul_one, Nat.zero_add, Bool.false_eq_true, decide_true, decide_false, not_false_eq_true, kont_eq, hf19]; simp, K7⟩
        rintro m f8 H8 ⟨j, hj, rfl, hf8, hf819, K8⟩
        simp only [go_sem, List.map_cons, List.map_nil, ↓reduceIte, Nat.reduceEqDiff, Nat.reduceAdd, Nat.reduceMul, reduceCtorEq, and_true, true_and, Nat.mul_one, Nat.zero_add, Bool.false_eq_true, decide_true, decide_false, not_false_eq_true, kont_eq] at hf8 hf819
        have s8 := K8.size
        simp only [go_sem, List.map_cons, List.map_nil, ↓reduceIte, Nat.reduceEqDiff, Nat.reduceAdd, Nat.reduceMul, reduceCtorEq, and_true, true_and, Nat.mul_one, Nat.zero_add, Bool.false_eq_true, decide_true, decide_false, not_false_eq_true, hf8]
        refine iteV_dec (fun hlt3 => ?_) (fun hge3 => ?_)
        · have hjn : j < n := by omega
          have eJ : (List.range (j + 1)).all (fun y => !(s.testBit y && tcB R a y)) = ((List.range j).all (fun y => !(s.testBit y && tcB R a y)) && !(s.testBit j && tcB R a j)) := by
            rw [List.range_succ, List.all_append]; simp
          generalize hfr : (freeA n (tcB R) s a && (List.range j).all fun y => !(s.testBit y && tcB R a y)) = fr at hf819
          have eF : (freeA n (tcB R) s a && (List.range (j + 1)).all fun y => !(s.testBit y && tcB R a y)) = (fr && !(s.testBit j && tcB R a j)) := by
            rw [eJ, ← Bool.and_assoc, hfr]
          cases fr with
          | false =>
            simp (disch := omega) only [go_sem, List.map_cons, List.map_nil, ↓reduceIte, Nat.reduceEqDiff, Nat.reduceAdd, Nat.reduceMul, reduceCtorEq, and_true, true_and, Nat.mul_one, Nat.zero_add, Bool.false_eq_true, decide_true, decide_false, not_false_eq_true, kont_eq, hf8, hf819, IntWalk.i64_in]
            refine ⟨n - (j + 1), by omega, j + 1, by omega, rfl, rfl, ?_, K8⟩
            rw [eF]; rfl
          | true =>
            cases hbj : s.testBit j with
            | false =>
              have e1 : ((0 : Int) == 1) = false := rfl
              simp (disch := omega) only [go_sem, List.map_cons, List.map_nil, ↓reduceIte, Nat.reduceEqDiff, Nat.reduceAdd, Nat.reduceMul, reduceCtorEq, and_true, true_and, Nat.mul_one, Nat.zero_add, Bool.false_eq_true, decide_true, decide_false, not_false_eq_true, kont_eq, hf8, hf819, hg, tn_cast, hbit j hjn, hbj, e1, Bool.not_false, IntWalk.i64_in]
              refine ⟨by omega, n - (j + 1), by omega, j + 1, by omega, rfl, rfl, ?_, K8⟩
              rw [eF, hbj]; rfl
            | true =>
              have e1 : ((1 : Int) == 1) = true := rfl
              simp only [go_sem, List.map_cons, List.map_nil, ↓reduceIte, Nat.reduceEqDiff, Nat.reduceAdd, Nat.reduceMul, reduceCtorEq, and_true, true_and, Nat.mul_one, Nat.zero_add, Bool.false_eq_true, decide_true, decide_false, not_false_eq_true, kont_eq, hf8, hf819, hf, hf10, hg, tn_cast, hbit j hjn, hbj, e1]
              have K38 := (K4.trans K5).trans K8
              refine ⟨by omega, (h.bl (some (n, R)) ov (a : Int) H8 (OrdV.keep0 hO K38)).mono ?_⟩
              rintro r H9 ⟨S9, K9, -⟩
              rw [kont_eq]
              simp only [go_sem, List.map_cons, List.map_nil, ↓reduceIte, Nat.reduceEqDiff, Nat.reduceAdd, Nat.reduceMul, reduceCtorEq, and_true, true_and, Nat.mul_one, Nat.zero_add, Bool.false_eq_true, decide_true, decide_false, not_false_eq_true, kont_eq, hf8]
              refine (h.ha _ r (j : Int) H9 S9).mono ?_
              rintro r H10 ⟨rfl, K10⟩
              have em : memI (blwO (some (n, R)) (a : Int)) (j : Int) = tcB R a j := by
                unfold memI blwO inO
                have h1 : decide (0 ≤ (a : Int)) = true := decide_eq_true (by omega)
                have h2 : decide ((a : Int) < ((n : Nat) : Int)) = true := decide_eq_true (by omega)
                have h3 : decide (0 ≤ (j : Int)) = true := decide_eq_true (by omega)
                have h4 : decide ((j : Int) ≤ 4095) = true := decide_eq_true (by omega)
                simp [h1, h2, h3, h4, han]
                try omega
              rw [kont_eq]
              simp (disch := omega) only [go_sem, List.map_cons, List.map_nil, ↓reduceIte, Nat.reduceEqDiff, Nat.reduceAdd, Nat.reduceMul, reduceCtorEq, and_true, true_and, Nat.mul_one, Nat.zero_add, Bool.false_eq_true, decide_true, decide_false, not_false_eq_true, kont_eq, hf8, em, IntWalk.i64_in]
              refine ⟨n - (j + 1), by omega, j + 1, by omega, rfl, rfl, ?_, (K8.trans K9).trans K10⟩
              rw [eF, hbj]; simp
        · have : j = n := by omega
          subst this
          simp (disch := omega) only [go_sem, List.map_cons, List.map_nil, ↓reduceIte, Nat.reduceEqDiff, Nat.reduceAdd, Nat.reduceMul, reduceCtorEq, and_true, true_and, Nat.mul_one, Nat.zero_add, Bool.false_eq_true, decide_true, decide_false, not_false_eq_true, kont_eq, hf, hf18, hf819, IntWalk.i64_in]
          refine ⟨j - (a + 1), by omega, a + 1, by omega, rfl, rfl, ?_, ?_, K8⟩
          · rw [cn_succ, hb]; simp
          · rw [eA, hb]; simp
    · have : a = n := by omega
      subst this
      have hkd : kindOf (Value.int .i64 (bestF a (tcB R) s : Int)) = .i64 := rfl
      cases hfr : freeA a (tcB R) s a with
      | false =>
        rw [hfr] at hf19
        simp (disch := omega) only [go_sem, List.map_cons, List.map_nil, ↓reduceIte, Nat.reduceEqDiff, Nat.reduceAdd, Nat.reduceMul, reduceCtorEq, and_true, true_and, Nat.mul_one, Nat.zero_add, Bool.false_eq_true, decide_true, decide_false, not_false_eq_true, kont_eq, hg, hg16, hf18, hf19, IntWalk.i64_in]
        refine ⟨N - (s + 1), by omega, s + 1, by omega, rfl, rfl, ?_, K7⟩
        rw [show bestF a (tcB R) (s + 1) = bestF a (tcB R) s from by
          conv => lhs; unfold bestF
          rw [if_neg (by unfold freeM; rw [hfr]; simp)]]
      | true =>
        rw [hfr] at hf19
        simp (disch := omega) only [go_sem, List.map_cons, List.map_nil, ↓reduceIte, Nat.reduceEqDiff, Nat.reduceAdd, Nat.reduceMul, reduceCtorEq, and_true, true_and, Nat.mul_one, Nat.zero_add, Bool.false_eq_true, decide_true, decide_false, not_false_eq_true, kont_eq, hg, hg16, hf18, hf19, hkd, IntWalk.i64_in]
        refine ⟨N - (s + 1), by omega, s + 1, by omega, rfl, rfl, ?_, K7⟩
        rw [show bestF a (tcB R) (s + 1) = max (bestF a (tcB R) s) (cntM a s) from by
          conv => lhs; unfold bestF
          rw [if_pos (by unfold freeM; exact hfr)]]
        unfold cntM
        congr 1
        split <;> omega
  · have : s = N := by omega
    subst this
    have hcl := cn_le n (mt (gi L))
    have d1 : ((0 : Int) == 0) = true := rfl
    have d2 : IntKind.i64.wrap ((n : Int) - (sz : Int)) = (n : Int) - sz := IntWalk.i64_in _ (by omega)
    have d3 : (((n : Int) - (sz : Int)) == (bestF n (tcB R) s : Int)) = true := by rw [beq_iff_eq]; omega
    simp only [go_sem, List.map_cons, List.map_nil, ↓reduceIte, Nat.reduceEqDiff, Nat.reduceAdd, Nat.reduceMul, reduceCtorEq, and_true, true_and, Nat.mul_one, Nat.zero_add, Bool.false_eq_true, decide_true, decide_false, not_false_eq_true, kont_eq, hf5, hg16, d1, d2, d3]
    rw [hQ]
    exact ⟨rfl, (K04.trans K5).trans K6⟩
end Go.Mg
