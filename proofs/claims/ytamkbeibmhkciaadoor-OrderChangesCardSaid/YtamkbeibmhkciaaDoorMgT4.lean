/- Several texts of ours in one. No conditions. -/
import Derived.Test.YtamkbeibmhkciaaDoorMgT1
import Derived.Test.YtamkbeibmhkciaaDoorMgS2
namespace Go.Mg
open Go Go.RowKit
set_option linter.unusedSimpArgs false
set_option linter.unusedVariables false
set_option maxRecDepth 100000

theorem acy_wsh {n : Nat} {R : Nat → Nat → Bool} (hR : Rng n R) (h : ∀ a < n, wsh R n a a = false) : Acy R := fun a k => by
  have h1 := h a (hR.tc k).1
  rw [wsh_tc hR, tcB_iff.2 k] at h1
  cases h1
def redW (n : Nat) (R : Nat → Nat → Bool) (x y : Nat) : Bool := wsh R n x y && !(List.range n).any fun z => wsh R n x z && wsh R n z y
theorem redR_W {n : Nat} {R : Nat → Nat → Bool} (hR : Rng n R) : redR n R = redW n R := by
  funext x y
  unfold redR redW btw
  simp only [wsh_tc hR]
theorem wlk_find {n : Nat} {R : Nat → Nat → Bool} (hR : Rng n R) {d a b : Nat} : (walks n R d a).find? (fun p => lastN p == b) = none ↔ ¬ wlk R d a b := by
  rw [List.find?_eq_none]
  constructor
  · intro h hw
    obtain ⟨p, hp, hl⟩ := walks_mem hR d hw
    have := h p hp
    simp [hl] at this
  · intro h p hp hl
    have hl : lastN p = b := by simpa using hl
    exact h (hl ▸ walks_last d a p hp)
theorem pth_calc {n : Nat} {R : Nat → Nat → Bool} (hR : Rng n R) {d a b : Nat} {L : List Nat} (ha : a < n) (hb : b < n) (h1 : (walks n R d a).find? (fun p => lastN p == b) = some L) (h2 : ∀ e < d, (walks n R e a).find? (fun p => lastN p == b) = none) : pthO (some (n, R)) (a : Int) (b : Int) = some L := by
  have hw : wlk R d a b := Classical.byContradiction fun h => by rw [(wlk_find hR).2 h] at h1; cases h1
  have hD : isD R b d a := ⟨hw, fun e he => (wlk_find hR).1 (h2 e he)⟩
  have hia : inO (some (n, R)) (a : Int) = true := by simp only [inO, Bool.and_eq_true, decide_eq_true_eq]; omega
  have hib : inO (some (n, R)) (b : Int) = true := by simp only [inO, Bool.and_eq_true, decide_eq_true_eq]; omega
  have h3 := pthO_some (n := n) (R := R) (a := (a : Int)) (b := (b : Int)) (d := d) hia hib (by simpa using hD)
  rw [h3, Int.toNat_natCast, Int.toNat_natCast, ← walks_find hR d a hD, h1]
def LA : List (Int × Int) := [(0, 1), (1, 3), (0, 2), (2, 3), (0, 3)]
def LB : List (Int × Int) := [(2, 0)]
def RA : Nat → Nat → Bool := relI LA
def RB : Nat → Nat → Bool := relI LB
theorem rng_of {n : Nat} {L : List (Int × Int)} (h : ∀ p ∈ L, okP (n : Int) p) : Rng n (relI L) := fun a b hab => by
  have := h _ (of_decide_eq_true hab)
  unfold okP at this
  simp only at this
  omega
theorem okA : ∀ p ∈ LA, okP ((4 : Nat) : Int) p := by unfold okP; decide
theorem okB : ∀ p ∈ LB, okP ((3 : Nat) : Int) p := by unfold okP; decide
theorem rngA : Rng 4 RA := rng_of okA
theorem rngB : Rng 3 RB := rng_of okB
theorem acyA : Acy RA := acy_wsh rngA (by decide +kernel)
theorem acyB : Acy RB := acy_wsh rngB (by decide +kernel)
theorem gridA : gridP 4 RA = [(0, 1), (0, 2), (0, 3), (1, 3), (2, 3)] := by decide +kernel
theorem longA : pthO (some (4, redR 4 RA)) (0 : Int) (3 : Int) = some [0, 1, 3] := by
  have h := redR_W rngA
  have hr := rngA.red
  rw [h] at hr ⊢
  exact pth_calc (d := 2) (a := 0) (b := 3) hr (by omega) (by omega) (by decide +kernel) (by decide +kernel)
theorem shortA : pthO (some (4, RA)) (0 : Int) (3 : Int) = some [0, 3] :=
  pth_calc (d := 1) (a := 0) (b := 3) rngA (by omega) (by omega) (by decide +kernel) (by decide +kernel)
theorem hgtA : hgtO (some (4, RA)) = 3 := by
  show maxL ((srt 4 RA).map (hgt 4 RA)) = 3
  decide +kernel
theorem abvA : mems (abvO (some (4, RA)) 3) = [0, 1, 2] := by
  rw [abv_list rngA (by omega)]
  have : rabL 4 RA 3 = (List.range 4).filter fun x => wsh RA 4 x 3 := by
    unfold rabL
    refine List.filter_congr fun x _ => ?_
    have := isRb_nat rngA x 3
    rw [wsh_tc rngA]; exact this
  rw [this]
  decide +kernel
theorem txtA : txtF [0, 1, 2] ++ [125] = [123, 48, 32, 49, 32, 50, 125] := by decide +kernel
theorem redA : gridP 4 (redR 4 RA) = [(0, 1), (0, 2), (1, 3), (2, 3)] := by
  rw [redR_W rngA]; decide +kernel
theorem srtB : srt 3 RB = [1, 2, 0] := by decide +kernel
theorem cycA {R : Nat → Nat → Bool} (h1 : R 0 3 = true) (h2 : R 3 0 = true) : ¬ Acy R := fun h => h 0 (.more h1 (.one h2))
end Go.Mg

namespace Go.Mg
open Go Go.RowKit
set_option linter.unusedSimpArgs false
set_option linter.unusedVariables false
set_option maxRecDepth 100000
/- arbaclaw06.awake -/
def c_lawk (ι : Ids) : S :=
  .seq (.reg [.p (.v 0) (.mv (.c (.bool false)))]) (.seq (.reg [.p (.t 14) (.m (.bld #[.int .i64 0, .int .i64 0] [(0, (1, .c (.int .i64 0))), (1, (1, .c (.int .i64 1)))])), .p (.t 15) (.m (.bld #[.int
  .i64 0, .int .i64 0] [(0, (1, .c (.int .i64 1))), (1, (1, .c (.int .i64 3)))])), .p (.t 16) (.m (.bld #[.int .i64 0, .int .i64 0] [(0, (1, .c (.int .i64 0))), (1, (1, .c (.int .i64 2)))])), .p (.t 17)
  (.m (.bld #[.int .i64 0, .int .i64 0] [(0, (1, .c (.int .i64 2))), (1, (1, .c (.int .i64 3)))])), .p (.t 18) (.m (.bld #[.int .i64 0, .int .i64 0] [(0, (1, .c (.int .i64 0))), (1, (1, .c (.int .i64
  3)))])), .e (.t 19) (.bldF (ι.t 194) 2 5 [.t 14, .t 15, .t 16, .t 17, .t 18]), .e (.t 20) (.call (ι.f 201) [.c (.int .i64 4), .t 19]), .p (.t 13) (.mv (.t 20)), .p (.t 21) (.ext (.t 13) 0), .p (.t 22)
  (.ext (.t 13) 1), .p (.v 1) (.mv (.t 21)), .p (.v 2) (.mv (.t 22))]) (.seq (.reg [.p (.t 24) (.m (.bld #[.int .i64 0, .int .i64 0] [(0, (1, .c (.int .i64 2))), (1, (1, .c (.int .i64 0)))])), .e (.t
  25) (.bldF (ι.t 194) 2 1 [.t 24]), .e (.t 26) (.call (ι.f 201) [.c (.int .i64 3), .t 25]), .p (.t 23) (.mv (.t 26)), .p (.t 27) (.ext (.t 23) 0), .p (.t 28) (.ext (.t 23) 1), .p (.v 3) (.mv (.t 27)),
  .p (.v 4) (.mv (.t 28))]) (.seq (.seq (.reg [.p (.t 29) (.mv (.v 2)), .p (.t 30) (.cm .neq .i64 (.t 29) (.c (.int .i64 0))), .p (.t 31) (.mv (.t 30)), .gp (.t 32) (.t 31) false (.mv (.v 4)), .gp (.t
  33) (.t 31) false (.cm .neq .i64 (.t 32) (.c (.int .i64 0))), .p (.t 34) (.pick (.t 31) (.c (.bool true)) (.t 33)), .p (.t 35) (.mv (.t 34)), .gp (.t 36) (.t 35) false (.mv (.v 1)), .gp (.t 37) (.t
  35) false (.m (.eqn .ptr false (.t 36))), .p (.t 38) (.pick (.t 35) (.c (.bool true)) (.t 37)), .p (.t 39) (.mv (.t 38)), .gp (.t 40) (.t 39) false (.mv (.v 3)), .gp (.t 41) (.t 39) false (.m (.eqn
  .ptr false (.t 40))), .p (.v 42) (.pick (.t 39) (.c (.bool true)) (.t 41))]) (.ite (.v 42) (.seq (.reg [.p (.v 0) (.mv (.c (.bool false)))]) .ret) .skip)) (.seq (.reg [.p (.t 44) (.mv (.v 1)), .e (.t
  45) (.call (ι.f 230) [.t 44, .c (.int .i64 3), .c (.int .i64 0)]), .p (.t 43) (.mv (.t 45)), .p (.t 46) (.ext (.t 43) 0), .p (.t 47) (.ext (.t 43) 1), .p (.t 5) (.mv (.t 46)), .p (.v 6) (.mv (.t
  47))]) (.seq (.reg [.p (.t 49) (.mv (.v 1)), .e (.t 50) (.call (ι.f 230) [.t 49, .c (.int .i64 0), .c (.int .i64 3)]), .p (.t 48) (.mv (.t 50)), .p (.t 51) (.ext (.t 48) 0), .p (.t 52) (.ext (.t 48)
  1), .p (.t 7) (.mv (.t 51)), .p (.v 8) (.mv (.t 52))]) (.seq (.reg [.p (.t 54) (.mv (.v 1)), .e (.t 55) (.call (ι.f 239) [.t 54]), .e (.t 56) (.call (ι.f 245) [.t 55, .c (.int .i64 0), .c (.int .i64
  3)]), .p (.t 53) (.mv (.t 56)), .p (.t 57) (.ext (.t 53) 0), .p (.t 58) (.ext (.t 53) 1), .p (.v 9) (.mv (.t 57)), .p (.v 10) (.mv (.t 58))]) (.seq (.reg [.p (.t 60) (.mv (.v 1)), .e (.t 61) (.call
  (ι.f 245) [.t 60, .c (.int .i64 0), .c (.int .i64 3)]), .p (.t 59) (.mv (.t 61)), .p (.t 62) (.ext (.t 59) 0), .p (.t 63) (.ext (.t 59) 1), .p (.v 11) (.mv (.t 62)), .p (.v 12) (.mv (.t 63))]) (.seq
  (.reg [.p (.t 64) (.mv (.v 10)), .p (.t 65) (.mv (.t 64)), .gp (.t 66) (.t 65) true (.mv (.v 12)), .p (.t 67) (.pick (.t 65) (.t 66) (.c (.bool false))), .p (.t 68) (.mv (.t 67)), .gp (.t 69) (.t 68)
  true (.mv (.v 9)), .ge (.t 70) (.t 68) true (.bldF (ι.t 26) 1 3 [.c (.int .i64 0), .c (.int .i64 1), .c (.int .i64 3)]), .ge (.t 71) (.t 68) true (.call (ι.f 165) [.t 69, .t 70]), .p (.t 72) (.pick
  (.t 68) (.t 71) (.c (.bool false))), .p (.t 73) (.mv (.t 72)), .gp (.t 74) (.t 73) true (.mv (.v 11)), .ge (.t 75) (.t 73) true (.bldF (ι.t 26) 1 2 [.c (.int .i64 0), .c (.int .i64 3)]), .ge (.t 76)
  (.t 73) true (.call (ι.f 165) [.t 74, .t 75]), .p (.t 77) (.pick (.t 73) (.t 76) (.c (.bool false))), .p (.t 78) (.mv (.t 77)), .gp (.t 79) (.t 78) true (.mv (.v 1)), .ge (.t 80) (.t 78) true (.call
  (ι.f 244) [.t 79]), .gp (.t 81) (.t 78) true (.cm .eql .i64 (.t 80) (.c (.int .i64 3))), .p (.t 82) (.pick (.t 78) (.t 81) (.c (.bool false))), .p (.t 83) (.mv (.t 82)), .gp (.t 84) (.t 83) true (.mv
  (.v 1)), .ge (.t 85) (.t 83) true (.call (ι.f 206) [.t 84, .c (.int .i64 3)]), .ge (.t 86) (.t 83) true (.call (ι.f 225) [.t 85]), .gp (.t 87) (.t 83) true (.sc .eql (.t 86) (.c (.string ⟨#[123, 48,
  32, 49, 32, 50, 125]⟩))), .p (.t 88) (.pick (.t 83) (.t 87) (.c (.bool false))), .p (.t 89) (.mv (.t 88)), .gp (.t 90) (.t 89) true (.mv (.v 1)), .ge (.t 91) (.t 89) true (.call (ι.f 239) [.t 90]),
  .ge (.t 92) (.t 89) true (.call (ι.f 205) [.t 91]), .gp (.t 93) (.t 89) true (.m (.bld #[.int .i64 0, .int .i64 0] [(0, (1, .c (.int .i64 0))), (1, (1, .c (.int .i64 1)))])), .gp (.t 94) (.t 89) true
  (.m (.bld #[.int .i64 0, .int .i64 0] [(0, (1, .c (.int .i64 0))), (1, (1, .c (.int .i64 2)))])), .gp (.t 95) (.t 89) true (.m (.bld #[.int .i64 0, .int .i64 0] [(0, (1, .c (.int .i64 1))), (1, (1, .c
  (.int .i64 3)))])), .gp (.t 96) (.t 89) true (.m (.bld #[.int .i64 0, .int .i64 0] [(0, (1, .c (.int .i64 2))), (1, (1, .c (.int .i64 3)))])), .ge (.t 97) (.t 89) true (.bldF (ι.t 194) 2 4 [.t 93, .t
  94, .t 95, .t 96]), .ge (.t 98) (.t 89) true (.call (ι.f 229) [.t 92, .t 97]), .p (.t 99) (.pick (.t 89) (.t 98) (.c (.bool false))), .p (.t 100) (.mv (.t 99)), .gp (.t 101) (.t 100) true (.mv (.v
  3)), .ge (.t 102) (.t 100) true (.call (ι.f 209) [.t 101]), .ge (.t 103) (.t 100) true (.bldF (ι.t 26) 1 3 [.c (.int .i64 1), .c (.int .i64 2), .c (.int .i64 0)]), .ge (.t 104) (.t 100) true (.call
  (ι.f 165) [.t 102, .t 103]), .p (.t 105) (.pick (.t 100) (.t 104) (.c (.bool false))), .p (.t 106) (.mv (.t 105)), .gp (.t 107) (.t 106) true (.mv (.v 6)), .gp (.t 108) (.t 106) true (.cm .eql .i64
  (.t 107) (.c (.int .i64 16))), .p (.t 109) (.pick (.t 106) (.t 108) (.c (.bool false))), .p (.t 110) (.mv (.t 109)), .gp (.t 111) (.t 110) true (.mv (.v 8)), .gp (.t 112) (.t 110) true (.cm .eql .i64
  (.t 111) (.c (.int .i64 5))), .p (.t 113) (.pick (.t 110) (.t 112) (.c (.bool false))), .p (.v 0) (.mv (.t 113))]) .ret))))))))
def r_lawk : List RV := [.t 0]

structure AwC (P : Program) (ι : Ids) : Prop where
  nw : ONewSpec P ι (ι.f 201)
  wt : OWithSpec P ι (ι.f 230)
  rd : ORedSpec P ι (ι.f 239) redO
  pt : OPathSpec P (ι.f 245)
  hg : OHgtSpec P ι (ι.f 244)
  abv : OAbvSpec P (ι.f 206)
  txt : BTextSpec P ι (ι.f 225)
  prs : OPairsSpec P (ι.f 205)
  srt : OSrtSpec P (ι.f 209)
  eqI : IEqSpec P (ι.f 165)
  eqP : PEqSpec P (ι.f 229)
def AwkSpec (P : Program) (ι : Ids) (k : FuncId) : Prop := ∀ (H : Hp), TabOk ι H → CallsM P k #[] H fun r H' => r = .bool true ∧ Keep (fun _ => False) H H'
theorem NewRes.good {n : Nat} {L : List (Int × Int)} {r : Value} {H : Hp} (hn : n ≤ 256) (h : NewRes (n : Int) L r H) (h1 : ∀ p ∈ L, okP (n : Int) p) (h2 : Acy (relI L)) : ∃ v, r = .tuple #[v, .int .i64 0] ∧ OrdV H v n (relI L) := by
  rcases h with ⟨h, _⟩ | ⟨_, h, _⟩ | ⟨_, _, h, _⟩ | ⟨_, _, _, v, h3, h4⟩
  · unfold badN at h; omega
  · exact absurd h1 h
  · exact absurd h2 h
  · rw [Int.toNat_natCast] at h4; exact ⟨v, h3, h4⟩
theorem NewRes.cyc {n : Nat} {L : List (Int × Int)} {r : Value} {H : Hp} (hn : n ≤ 256) (h : NewRes (n : Int) L r H) (h1 : ∀ p ∈ L, okP (n : Int) p) (h2 : ¬ Acy (relI L)) : r = .tuple #[.pointer none, .int .i64 16] := by
  rcases h with ⟨h, _⟩ | ⟨_, h, _⟩ | ⟨_, _, _, h⟩ | ⟨_, _, h, _⟩
  · unfold badN at h; omega
  · exact absurd h1 h
  · exact h
  · exact absurd h h2
theorem lawk_ok {P : Program} {ι : Ids} {k : FuncId} (hk : FnIs P k (c_lawk ι) r_lawk 0) (c : AwC P ι) : AwkSpec P ι k := by
  intro H hT
  obtain ⟨Q, hQ⟩ : ∃ Q : Value → Hp → Prop, Q = fun r H' => r = .bool true ∧ Keep (fun _ => False) H H' := ⟨_, rfl⟩
  rw [← hQ]
  refine calls_of_vc hk (args := []) (by simp) ?_
  unfold c_lawk r_lawk
  simp only [go_sem, List.map_cons, List.map_nil, ↓reduceIte, Nat.reduceEqDiff, Nat.reduceAdd, Nat.reduceMul, reduceCtorEq, and_true, true_and, Nat.mul_one, Nat.zero_add, Bool.false_eq_true, decide_true, decide_false, not_false_eq_true, fillV_nil, fillV_cons, okFill_nil, okFill_cons, cells_slice, cells_int, cells_bool, cells_str, cells_ptr, cells_agg, stNH_ptr, okN_ptr, wrA1, wrA20, wrA21]
  repeat (refine ⟨by omega, ?_⟩)
  refine kont_news fun H1 b1 e1 z1 B1 K1 => ?_
  have s1 := K1.size
  have v1 : SlP H1 (.slice (some ⟨b1, 0, none⟩) 5 5) LA := SlE.bl B1 (l := LA) rfl (by simp [LA]) (by simp [LA])
  simp only [go_sem, List.map_cons, List.map_nil, ↓reduceIte, Nat.reduceEqDiff, Nat.reduceAdd, Nat.reduceMul, reduceCtorEq, and_true, true_and, Nat.mul_one, Nat.zero_add, Bool.false_eq_true, decide_true, decide_false, not_false_eq_true, kont_eq]
  refine (c.nw ((4 : Nat) : Int) LA _ H1 (hT.keep K1) v1 (by simp [LA])).mono ?_
  rintro r H2 ⟨hr, K2, _⟩
  obtain ⟨vo, rfl, ho⟩ := hr.good (by omega) okA acyA
  have hoR : OrdV H2 vo 4 RA := ho
  have K02 := K1.trans K2
  rw [kont_eq]
  simp only [go_sem, List.map_cons, List.map_nil, ↓reduceIte, Nat.reduceEqDiff, Nat.reduceAdd, Nat.reduceMul, reduceCtorEq, and_true, true_and, Nat.mul_one, Nat.zero_add, Bool.false_eq_true, decide_true, decide_false, not_false_eq_true, fillV_nil, fillV_cons, okFill_nil, okFill_cons, cells_slice, cells_int, cells_bool, cells_str, cells_ptr, cells_agg, stNH_ptr, okN_ptr, wrA1, wrA20, wrA21]
  repeat (refine ⟨by omega, ?_⟩)
  refine kont_news fun H3 b3 e3 z3 B3 K3 => ?_
  have s3 := K3.size
  have v3 : SlP H3 (.slice (some ⟨b3, 0, none⟩) 1 1) LB := SlE.bl B3 (l := LB) rfl (by simp [LB]) (by simp [LB])
  have K03 := K02.trans K3
  simp only [go_sem, List.map_cons, List.map_nil, ↓reduceIte, Nat.reduceEqDiff, Nat.reduceAdd, Nat.reduceMul, reduceCtorEq, and_true, true_and, Nat.mul_one, Nat.zero_add, Bool.false_eq_true, decide_true, decide_false, not_false_eq_true, kont_eq]
  refine (c.nw ((3 : Nat) : Int) LB _ H3 (hT.keep K03) v3 (by simp [LB])).mono ?_
  rintro r H4 ⟨hr, K4, _⟩
  obtain ⟨vp, rfl, hp⟩ := hr.good (by omega) okB acyB
  have hpR : OrdV H4 vp 3 RB := hp
  have K34 := K3.trans K4
  have K04 := K03.trans K4
  have ho4 := hoR.keep0 K34
  obtain ⟨ob, rfl⟩ : ∃ ob, vo = .pointer (some ⟨ob, 0, none⟩) := by
    obtain ⟨_, _, _, b, _, _, _, _, _, _, _, e, _⟩ := ho4; exact ⟨b, e⟩
  obtain ⟨pb, rfl⟩ : ∃ ob, vp = .pointer (some ⟨ob, 0, none⟩) := by
    obtain ⟨_, _, _, b, _, _, _, _, _, _, _, e, _⟩ := hpR; exact ⟨b, e⟩
  have e0 : ((0 : Int) != 0) = false := rfl
  rw [kont_eq]
  simp only [go_sem, List.map_cons, List.map_nil, ↓reduceIte, Nat.reduceEqDiff, Nat.reduceAdd, Nat.reduceMul, reduceCtorEq, and_true, true_and, Nat.mul_one, Nat.zero_add, Bool.false_eq_true, decide_true, decide_false, not_false_eq_true, kont_eq, fillV_nil, fillV_cons, okFill_nil, okFill_cons, cells_slice, cells_int, cells_bool, cells_str, cells_ptr, cells_agg, stNH_ptr, okN_ptr, wrA1, wrA20, wrA21, e0]
  have hT4 := hT.keep K04
  have oo : ∀ {A : Hp}, Keep (fun _ => False) H4 A → OrdO A (.pointer (some ⟨ob, 0, none⟩)) (some (4, RA)) := fun K => OrdO.keep0 (o := some (4, RA)) ho4 K
  have pp : ∀ {A : Hp}, Keep (fun _ => False) H4 A → OrdO A (.pointer (some ⟨pb, 0, none⟩)) (some (3, RB)) := fun K => OrdO.keep0 (o := some (3, RB)) hpR K
  have hG : (gridP 4 RA).map toI = [(0, 1), (0, 2), (0, 3), (1, 3), (2, 3)] := by rw [gridA]; rfl
  refine (c.wt (some (4, RA)) _ 3 0 H4 hT4 (oo (Keep.refl _ _))).mono ?_
  rintro r H5 ⟨hr, K5, _⟩
  obtain rfl : r = .tuple #[.pointer none, .int .i64 16] := by
    rcases hr with ⟨h, _⟩ | ⟨n, R, e, h⟩
    · cases h
    · cases e
      rcases h with ⟨h, _⟩ | ⟨_, h, _⟩ | ⟨_, _, h⟩
      · exact absurd h (by decide)
      · exact absurd h (by decide)
      · rw [hG] at h
        exact h.cyc (by omega) (by unfold okP; decide) (cycA (by decide) (by decide))
  rw [kont_eq]
  simp only [go_sem, List.map_cons, List.map_nil, ↓reduceIte, Nat.reduceEqDiff, Nat.reduceAdd, Nat.reduceMul, reduceCtorEq, and_true, true_and, Nat.mul_one, Nat.zero_add, Bool.false_eq_true, decide_true, decide_false, not_false_eq_true, kont_eq, fillV_nil, fillV_cons, okFill_nil, okFill_cons, cells_slice, cells_int, cells_bool, cells_str, cells_ptr, cells_agg, stNH_ptr, okN_ptr, wrA1, wrA20, wrA21]
  refine (c.wt (some (4, RA)) _ 0 3 H5 (hT4.keep K5) (oo K5)).mono ?_
  rintro r H6 ⟨hr, K6, _⟩
  have K46 := K5.trans K6
  obtain rfl : r = .tuple #[.pointer none, .int .i64 5] := by
    rcases hr with ⟨h, _⟩ | ⟨n, R, e, h⟩
    · cases h
    · cases e
      rcases h with ⟨h, _⟩ | ⟨_, _, h⟩ | ⟨_, h, _⟩
      · exact absurd h (by decide)
      · exact h
      · exact absurd h (by decide)
  rw [kont_eq]
  simp only [go_sem, List.map_cons, List.map_nil, ↓reduceIte, Nat.reduceEqDiff, Nat.reduceAdd, Nat.reduceMul, reduceCtorEq, and_true, true_and, Nat.mul_one, Nat.zero_add, Bool.false_eq_true, decide_true, decide_false, not_false_eq_true, kont_eq, fillV_nil, fillV_cons, okFill_nil, okFill_cons, cells_slice, cells_int, cells_bool, cells_str, cells_ptr, cells_agg, stNH_ptr, okN_ptr, wrA1, wrA20, wrA21]
  refine (c.rd (some (4, RA)) _ H6 (hT4.keep K46) (oo K46)).mono ?_
  rintro rv H7 ⟨h7, K7⟩
  have K47 := K46.trans K7
  rw [kont_eq]
  simp only [go_sem, List.map_cons, List.map_nil, ↓reduceIte, Nat.reduceEqDiff, Nat.reduceAdd, Nat.reduceMul, reduceCtorEq, and_true, true_and, Nat.mul_one, Nat.zero_add, Bool.false_eq_true, decide_true, decide_false, not_false_eq_true, kont_eq, fillV_nil, fillV_cons, okFill_nil, okFill_cons, cells_slice, cells_int, cells_bool, cells_str, cells_ptr, cells_agg, stNH_ptr, okN_ptr, wrA1, wrA20, wrA21]
  refine (c.pt _ rv 0 3 H7 h7).mono ?_
  rintro r H8 ⟨w1, rfl, O8, K8⟩
  have K48 := K47.trans K8
  have hl : pthO (redO (some (4, RA))) 0 3 = some [0, 1, 3] := longA
  rw [hl] at O8
  have O8 : OwS H8 w1 (iN [0, 1, 3]) := O8
  rw [kont_eq, hl]
  simp only [go_sem, List.map_cons, List.map_nil, ↓reduceIte, Nat.reduceEqDiff, Nat.reduceAdd, Nat.reduceMul, reduceCtorEq, and_true, true_and, Nat.mul_one, Nat.zero_add, Bool.false_eq_true, decide_true, decide_false, not_false_eq_true, kont_eq, fillV_nil, fillV_cons, okFill_nil, okFill_cons, cells_slice, cells_int, cells_bool, cells_str, cells_ptr, cells_agg, stNH_ptr, okN_ptr, wrA1, wrA20, wrA21, Option.isSome]
  refine (c.pt _ _ 0 3 H8 (oo K48)).mono ?_
  rintro r H9 ⟨w2, rfl, O9, K9⟩
  have K49 := K48.trans K9
  rw [shortA] at O9
  have O9 : OwS H9 w2 (iN [0, 3]) := O9
  rw [kont_eq, shortA]
  simp only [go_sem, List.map_cons, List.map_nil, ↓reduceIte, Nat.reduceEqDiff, Nat.reduceAdd, Nat.reduceMul, reduceCtorEq, and_true, true_and, Nat.mul_one, Nat.zero_add, Bool.false_eq_true, decide_true, decide_false, not_false_eq_true, fillV_nil, fillV_cons, okFill_nil, okFill_cons, cells_slice, cells_int, cells_bool, cells_str, cells_ptr, cells_agg, stNH_ptr, okN_ptr, wrA1, wrA20, wrA21, Option.isSome]
  have eqc : ∀ (l : List Nat) (A : Hp) (w w' : Value) (K : Value → Hp → Prop), l.length ≤ 1000 → SlR A w (iN l) → SlR A w' (iN l) → K (.bool true) A → CallsM P (ι.f 165) #[w, w'] A K := fun l A w w' K hl h1 h2 hK =>
    (c.eqI (nI l) (nI l) w w' A h1 h2 (by simp [nI]; omega)).mono fun r A' h => by
      obtain ⟨rfl, rfl⟩ := h
      rw [decide_eq_true rfl]; exact hK
  refine kont_news fun HA ba ea za Ba KA => ?_
  have Ba' : Bl HA ba (iN [0, 1, 3]) := Ba
  simp only [go_sem, List.map_cons, List.map_nil, ↓reduceIte, Nat.reduceEqDiff, Nat.reduceAdd, Nat.reduceMul, reduceCtorEq, and_true, true_and, Nat.mul_one, Nat.zero_add, Bool.false_eq_true, decide_true, decide_false, not_false_eq_true, kont_eq, fillV_nil, fillV_cons, okFill_nil, okFill_cons, cells_slice, cells_int, cells_bool, cells_str, cells_ptr, cells_agg, stNH_ptr, okN_ptr, wrA1, wrA20, wrA21]
  refine eqc [0, 1, 3] HA _ _ _ (by simp) ((O8.keep K9 (by simp)).keep KA (by simp)).sl (SlR.bl Ba' 0 3 3 (by omega) (by simp [iN_len])) ?_
  rw [kont_eq]
  simp only [go_sem, List.map_cons, List.map_nil, ↓reduceIte, Nat.reduceEqDiff, Nat.reduceAdd, Nat.reduceMul, reduceCtorEq, and_true, true_and, Nat.mul_one, Nat.zero_add, Bool.false_eq_true, decide_true, decide_false, not_false_eq_true, fillV_nil, fillV_cons, okFill_nil, okFill_cons, cells_slice, cells_int, cells_bool, cells_str, cells_ptr, cells_agg, stNH_ptr, okN_ptr, wrA1, wrA20, wrA21]
  refine kont_news fun HB bb eb zb Bb KB => ?_
  have Bb' : Bl HB bb (iN [0, 3]) := Bb
  simp only [go_sem, List.map_cons, List.map_nil, ↓reduceIte, Nat.reduceEqDiff, Nat.reduceAdd, Nat.reduceMul, reduceCtorEq, and_true, true_and, Nat.mul_one, Nat.zero_add, Bool.false_eq_true, decide_true, decide_false, not_false_eq_true, kont_eq, fillV_nil, fillV_cons, okFill_nil, okFill_cons, cells_slice, cells_int, cells_bool, cells_str, cells_ptr, cells_agg, stNH_ptr, okN_ptr, wrA1, wrA20, wrA21]
  have K4B := (K49.trans KA).trans KB
  refine eqc [0, 3] HB _ _ _ (by simp) ((O9.keep KA (by simp)).keep KB (by simp)).sl (SlR.bl Bb' 0 2 2 (by omega) (by simp [iN_len])) ?_
  rw [kont_eq]
  simp only [go_sem, List.map_cons, List.map_nil, ↓reduceIte, Nat.reduceEqDiff, Nat.reduceAdd, Nat.reduceMul, reduceCtorEq, and_true, true_and, Nat.mul_one, Nat.zero_add, Bool.false_eq_true, decide_true, decide_false, not_false_eq_true, kont_eq, fillV_nil, fillV_cons, okFill_nil, okFill_cons, cells_slice, cells_int, cells_bool, cells_str, cells_ptr, cells_agg, stNH_ptr, okN_ptr, wrA1, wrA20, wrA21]
  refine (c.hg (some (4, RA)) _ HB (hT4.keep K4B) (oo K4B)).mono ?_
  rintro r HC ⟨rfl, KC⟩
  have K4C := K4B.trans KC
  have e3 : (((hgtO (some (4, RA)) : Nat) : Int) == 3) = true := by rw [hgtA]; rfl
  rw [kont_eq]
  simp only [go_sem, List.map_cons, List.map_nil, ↓reduceIte, Nat.reduceEqDiff, Nat.reduceAdd, Nat.reduceMul, reduceCtorEq, and_true, true_and, Nat.mul_one, Nat.zero_add, Bool.false_eq_true, decide_true, decide_false, not_false_eq_true, kont_eq, fillV_nil, fillV_cons, okFill_nil, okFill_cons, cells_slice, cells_int, cells_bool, cells_str, cells_ptr, cells_agg, stNH_ptr, okN_ptr, wrA1, wrA20, wrA21, e3]
  refine (c.abv (some (4, RA)) _ 3 HC (oo K4C)).mono ?_
  rintro r HD ⟨hS, KD, _⟩
  have K4D := K4C.trans KD
  rw [kont_eq]
  simp only [go_sem, List.map_cons, List.map_nil, ↓reduceIte, Nat.reduceEqDiff, Nat.reduceAdd, Nat.reduceMul, reduceCtorEq, and_true, true_and, Nat.mul_one, Nat.zero_add, Bool.false_eq_true, decide_true, decide_false, not_false_eq_true, kont_eq, fillV_nil, fillV_cons, okFill_nil, okFill_cons, cells_slice, cells_int, cells_bool, cells_str, cells_ptr, cells_agg, stNH_ptr, okN_ptr, wrA1, wrA20, wrA21]
  refine (c.txt _ r HD (hT4.keep K4D) hS fun n hn => ?_).mono ?_
  · simp only [abvO, Bool.and_eq_true] at hn
    have := (rngA.tc (tcB_iff.1 hn.2)).1
    omega
  rintro r HE ⟨rfl, KE⟩
  have K4E := K4D.trans KE
  rw [kont_eq, abvA, txtA]
  have e7 : ∀ x : List UInt8, (x == x) = true := fun x => beq_self_eq_true x
  simp only [go_sem, List.map_cons, List.map_nil, ↓reduceIte, Nat.reduceEqDiff, Nat.reduceAdd, Nat.reduceMul, reduceCtorEq, and_true, true_and, Nat.mul_one, Nat.zero_add, Bool.false_eq_true, decide_true, decide_false, not_false_eq_true, kont_eq, fillV_nil, fillV_cons, okFill_nil, okFill_cons, cells_slice, cells_int, cells_bool, cells_str, cells_ptr, cells_agg, stNH_ptr, okN_ptr, wrA1, wrA20, wrA21, e7, forall_const, not_true_eq_false, false_implies]
  refine (c.rd (some (4, RA)) _ HE (hT4.keep K4E) (oo K4E)).mono ?_
  rintro rv2 HF ⟨hF, KF⟩
  have K4F := K4E.trans KF
  rw [kont_eq]
  simp only [go_sem, List.map_cons, List.map_nil, ↓reduceIte, Nat.reduceEqDiff, Nat.reduceAdd, Nat.reduceMul, reduceCtorEq, and_true, true_and, Nat.mul_one, Nat.zero_add, Bool.false_eq_true, decide_true, decide_false, not_false_eq_true, kont_eq, fillV_nil, fillV_cons, okFill_nil, okFill_cons, cells_slice, cells_int, cells_bool, cells_str, cells_ptr, cells_agg, stNH_ptr, okN_ptr, wrA1, wrA20, wrA21]
  refine (c.prs _ rv2 HF hF).mono ?_
  rintro pv HG ⟨OG, oG, KG⟩
  have OG : OwE nE 2 HG pv (gridP 4 (redR 4 RA)) := OG
  rw [redA] at OG
  have K4G := K4F.trans KG
  rw [kont_eq]
  simp only [go_sem, List.map_cons, List.map_nil, ↓reduceIte, Nat.reduceEqDiff, Nat.reduceAdd, Nat.reduceMul, reduceCtorEq, and_true, true_and, Nat.mul_one, Nat.zero_add, Bool.false_eq_true, decide_true, decide_false, not_false_eq_true, fillV_nil, fillV_cons, okFill_nil, okFill_cons, cells_slice, cells_int, cells_bool, cells_str, cells_ptr, cells_agg, stNH_ptr, okN_ptr, wrA1, wrA20, wrA21]
  repeat (refine ⟨by omega, ?_⟩)
  refine kont_news fun HH bh eh zh Bh KH => ?_
  simp only [go_sem, List.map_cons, List.map_nil, ↓reduceIte, Nat.reduceEqDiff, Nat.reduceAdd, Nat.reduceMul, reduceCtorEq, and_true, true_and, Nat.mul_one, Nat.zero_add, Bool.false_eq_true, decide_true, decide_false, not_false_eq_true, kont_eq, fillV_nil, fillV_cons, okFill_nil, okFill_cons, cells_slice, cells_int, cells_bool, cells_str, cells_ptr, cells_agg, stNH_ptr, okN_ptr, wrA1, wrA20, wrA21]
  have vh : SlE nE 2 HH (.slice (some ⟨bh, 0, none⟩) 4 4) [(0, 1), (0, 2), (1, 3), (2, 3)] := SlE.bl Bh (l := [(0, 1), (0, 2), (1, 3), (2, 3)]) rfl (by simp) (by simp)
  refine (c.eqP [(0, 1), (0, 2), (1, 3), (2, 3)] [(0, 1), (0, 2), (1, 3), (2, 3)] pv _ HH (OG.keep KH (by simp)).sl vh (by simp)).mono ?_
  rintro r HH' ⟨rfl, rfl⟩
  have e8 : decide (([(0, 1), (0, 2), (1, 3), (2, 3)] : List NP) = [(0, 1), (0, 2), (1, 3), (2, 3)]) = true := decide_eq_true rfl
  have K4H := K4G.trans KH
  rw [kont_eq]
  simp only [go_sem, List.map_cons, List.map_nil, ↓reduceIte, Nat.reduceEqDiff, Nat.reduceAdd, Nat.reduceMul, reduceCtorEq, and_true, true_and, Nat.mul_one, Nat.zero_add, Bool.false_eq_true, decide_true, decide_false, not_false_eq_true, kont_eq, fillV_nil, fillV_cons, okFill_nil, okFill_cons, cells_slice, cells_int, cells_bool, cells_str, cells_ptr, cells_agg, stNH_ptr, okN_ptr, wrA1, wrA20, wrA21, e8]
  refine (c.srt (some (3, RB)) _ HH' (pp K4H)).mono ?_
  rintro w3 HI ⟨OI, oI, KI⟩
  have OI : OwS HI w3 (iN (srt 3 RB)) := OI
  rw [srtB] at OI
  rw [kont_eq]
  simp only [go_sem, List.map_cons, List.map_nil, ↓reduceIte, Nat.reduceEqDiff, Nat.reduceAdd, Nat.reduceMul, reduceCtorEq, and_true, true_and, Nat.mul_one, Nat.zero_add, Bool.false_eq_true, decide_true, decide_false, not_false_eq_true, fillV_nil, fillV_cons, okFill_nil, okFill_cons, cells_slice, cells_int, cells_bool, cells_str, cells_ptr, cells_agg, stNH_ptr, okN_ptr, wrA1, wrA20, wrA21]
  refine kont_news fun HJ bj ej zj Bj KJ => ?_
  have Bj' : Bl HJ bj (iN [1, 2, 0]) := Bj
  simp only [go_sem, List.map_cons, List.map_nil, ↓reduceIte, Nat.reduceEqDiff, Nat.reduceAdd, Nat.reduceMul, reduceCtorEq, and_true, true_and, Nat.mul_one, Nat.zero_add, Bool.false_eq_true, decide_true, decide_false, not_false_eq_true, kont_eq, fillV_nil, fillV_cons, okFill_nil, okFill_cons, cells_slice, cells_int, cells_bool, cells_str, cells_ptr, cells_agg, stNH_ptr, okN_ptr, wrA1, wrA20, wrA21]
  refine eqc [1, 2, 0] HJ _ _ _ (by simp) (OI.keep KJ (by simp)).sl (SlR.bl Bj' 0 3 3 (by omega) (by simp [iN_len])) ?_
  rw [kont_eq]
  have e16 : ((16 : Int) == 16) = true := rfl
  have e55 : ((5 : Int) == 5) = true := rfl
  simp only [go_sem, List.map_cons, List.map_nil, ↓reduceIte, Nat.reduceEqDiff, Nat.reduceAdd, Nat.reduceMul, reduceCtorEq, and_true, true_and, Nat.mul_one, Nat.zero_add, Bool.false_eq_true, decide_true, decide_false, not_false_eq_true, kont_eq, fillV_nil, fillV_cons, okFill_nil, okFill_cons, cells_slice, cells_int, cells_bool, cells_str, cells_ptr, cells_agg, stNH_ptr, okN_ptr, wrA1, wrA20, wrA21, e16, e55]
  rw [hQ]
  exact ⟨rfl, ((K04.trans K4H).trans KI).trans KJ⟩
end Go.Mg

namespace Go.Mg
open Go Go.RowKit
set_option linter.unusedSimpArgs false
set_option linter.unusedVariables false
set_option maxRecDepth 100000
/- arbaclaw06.OrderSorts -/
/- arbaclaw06.OrderPaths -/
/- arbaclaw06.OrderReduces -/
/- arbaclaw06.OrderAsks -/
structure LawC (P : Program) (ι : Ids) : Prop where
  awk : AwkSpec P ι (ι.f 270)
  mak : LMakeSpec P ι (ι.f 268)
  is : IsSpec P ι (ι.f 269)
  srt : OSrtSpec P (ι.f 209)
  pt : OPathSpec P (ι.f 245)
  rd : ORedSpec P ι (ι.f 239) redO
  cl : ORedSpec P ι (ι.f 240) cloO
  less : OLessSpec P (ι.f 208)
  abv : OAbvSpec P (ι.f 206)
  blw : OBlwSpec P (ι.f 207)
  lst : BListSpec P ι (ι.f 139)
  rsrt : RSrtSpec P (ι.f 259)
  rpt : RPathSpec P (ι.f 262)
  rrd : RMapSpec P (ι.f 256) redR
  rcl : RMapSpec P (ι.f 255) fun _ R => tcB R
  ris : RIsSpec P (ι.f 250)
  rab : RListSpec P (ι.f 251) rabL
  rbe : RListSpec P (ι.f 252) rbeL
  eqI : IEqSpec P (ι.f 165)
theorem ptr_of {H : Hp} {v : Value} {n : Nat} {R : Nat → Nat → Bool} (h : OrdV H v n R) : ∃ b, v = .pointer (some ⟨b, 0, none⟩) := by
  obtain ⟨_, _, _, b, _, _, _, _, _, _, _, e, _⟩ := h; exact ⟨b, e⟩
theorem eqc {P : Program} {k : FuncId} (h : IEqSpec P k) (l : List Nat) (A : Hp) (w w' : Value) (K : Value → Hp → Prop) (hl : l.length ≤ 1000000) (h1 : SlR A w (iN l)) (h2 : SlR A w' (iN l)) (hK : K (.bool true) A) : CallsM P k #[w, w'] A K :=
  (h (nI l) (nI l) w w' A h1 h2 (by simp [nI]; omega)).mono fun r A' h => by
    obtain ⟨rfl, rfl⟩ := h
    rw [decide_eq_true rfl]; exact hK
end Go.Mg
