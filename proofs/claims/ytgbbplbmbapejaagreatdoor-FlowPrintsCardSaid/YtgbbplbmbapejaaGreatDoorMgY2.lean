/- Several texts of ours in one. No conditions. -/
import Derived.Test.YtgbbplbmbapejaaGreatDoorMgS3
import Derived.Test.YtgbbplbmbapejaaGreatDoorMgN1
import Derived.Test.YtgbbplbmbapejaaGreatDoorMgLp
import Derived.Test.YtgbbplbmbapejaaGreatDoorMgLib
open Nat renaming reduceEqDiff → Za, reduceAdd → Zb, reduceMul → Zc, reduceLeDiff → Zd, reduceLT → Ze
open Int renaming reduceBEq → Zf, reduceBNe → Zg, reduceLE → Zh, reduceLT → Zi
namespace Go.Mg
open Go Go.RowKit
set_option linter.all false
set_option maxRecDepth 100000
def c_sjoin (ι : Ids) : S :=
 .seq (.reg [.p (.v 4) (.mv (.c (.string ⟨#[]⟩)))]) (.seq (.seq (.reg [.p (.t 11) (.mv (.v 0)), .p (.v 12) (.m (.lenl (.t 11)))]) (.blk 0 (.seq (.reg [.p (.t 14) (.cm .eql .i64 (.v 12) (.c (.int .i64
 0))), .p (.v 13) (.mv (.t 14))]) (.ite (.v 13) (.seq (.reg [.p (.v 4) (.mv (.c (.string ⟨#[]⟩)))]) .ret) (.seq (.reg [.p (.t 16) (.cm .eql .i64 (.v 12) (.c (.int .i64 1))), .p (.v 15) (.mv (.t 16))])
 (.ite (.v 15) (.seq (.reg [.p (.t 17) (.mv (.v 0)), .p (.t 18) (.is 1 (.t 17) (.c (.int .i64 0))), .p (.t 19) (.ld (.t 18)), .p (.v 4) (.mv (.t 19))]) .ret) .skip)))))) (.seq (.reg [.p (.v 5) (.mv (.c
 (.int .i64 0)))]) (.seq (.seq (.reg [.p (.t 20) (.mv (.v 1)), .p (.t 21) (.m (.lens (.t 20))), .p (.v 22) (.cm .gtr .i64 (.t 21) (.c (.int .i64 0)))]) (.ite (.v 22) (.seq (.seq (.reg [.p (.t 23) (.mv
 (.v 1)), .p (.t 24) (.m (.lens (.t 23))), .p (.t 25) (.mv (.v 0)), .p (.t 26) (.m (.lenl (.t 25))), .p (.t 27) (.ar .sub .i64 (.t 26) (.c (.int .i64 1))), .p (.t 28) (.dv .quo .i64 (.c (.int .i64
 9223372036854775807)) (.t 27)), .p (.v 29) (.cm .geq .i64 (.t 24) (.t 28))]) (.ite (.v 29) (.reg [.p (.t 30) (.m (.mif (ι.t 67) (.c (.string ⟨#[115, 116, 114, 105, 110, 103, 115, 58, 32, 74, 111, 105,
 110, 32, 111, 117, 116, 112, 117, 116, 32, 108, 101, 110, 103, 116, 104, 32, 111, 118, 101, 114, 102, 108, 111, 119]⟩)))), .e .no .bad]) .skip)) (.reg [.p (.t 31) (.mv (.v 5)), .p (.t 32) (.mv (.v
 1)), .p (.t 33) (.m (.lens (.t 32))), .p (.t 34) (.mv (.v 0)), .p (.t 35) (.m (.lenl (.t 34))), .p (.t 36) (.ar .sub .i64 (.t 35) (.c (.int .i64 1))), .p (.t 37) (.ar .mul .i64 (.t 33) (.t 36)), .p
 (.t 38) (.ar .add .i64 (.t 31) (.t 37)), .p (.v 5) (.mv (.t 38))])) .skip)) (.seq (.seq (.reg [.p (.v 39) (.mv (.v 0)), .p (.v 40) (.m (.lenl (.v 39))), .p (.v 41) (.mv (.c (.int .i64 0)))]) (.blk 1
 (.loop (.seq (.reg [.p (.v 42) (.cm .lss .i64 (.v 41) (.v 40))]) (.seq (.ite (.v 42) .skip (.exit 1)) (.seq (.blk 2 (.seq (.reg [.p (.t 43) (.is 1 (.v 39) (.v 41)), .p (.t 44) (.ld (.t 43)), .p (.v 7)
 (.mv (.t 44))]) (.seq (.seq (.reg [.p (.t 45) (.mv (.v 7)), .p (.t 46) (.m (.lens (.t 45))), .p (.t 47) (.mv (.v 5)), .p (.t 48) (.ar .sub .i64 (.c (.int .i64 9223372036854775807)) (.t 47)), .p (.v
 49) (.cm .gtr .i64 (.t 46) (.t 48))]) (.ite (.v 49) (.reg [.p (.t 50) (.m (.mif (ι.t 67) (.c (.string ⟨#[115, 116, 114, 105, 110, 103, 115, 58, 32, 74, 111, 105, 110, 32, 111, 117, 116, 112, 117, 116,
 32, 108, 101, 110, 103, 116, 104, 32, 111, 118, 101, 114, 102, 108, 111, 119]⟩)))), .e .no .bad]) .skip)) (.reg [.p (.t 51) (.mv (.v 5)), .p (.t 52) (.mv (.v 7)), .p (.t 53) (.m (.lens (.t 52))), .p
 (.t 54) (.ar .add .i64 (.t 51) (.t 53)), .p (.v 5) (.mv (.t 54))])))) (.reg [.p (.t 55) (.ar .add .i64 (.v 41) (.c (.int .i64 1))), .p (.v 41) (.mv (.t 55))]))))))) (.seq (.reg [.e (.v 8) (.new (ι.t
 215) #[.pointer .none, .slice .none 0 0])]) (.seq (.reg [.p (.t 56) (.mv (.v 5)), .e (.t 57) (.call (ι.f 427) [.v 8, .t 56])]) (.seq (.reg [.p (.t 58) (.mv (.v 0)), .p (.t 59) (.is 1 (.t 58) (.c (.int
 .i64 0))), .p (.t 60) (.ld (.t 59)), .e (.t 61) (.call (ι.f 213) [.v 8, .t 60])]) (.seq (.seq (.reg [.p (.t 62) (.mv (.v 0)), .p (.v 63) (.m (.sls 1 (.t 62) (.some (.c (.int .i64 1))) .none)), .p (.v
 64) (.m (.lenl (.v 63))), .p (.v 65) (.mv (.c (.int .i64 0)))]) (.blk 3 (.loop (.seq (.reg [.p (.v 66) (.cm .lss .i64 (.v 65) (.v 64))]) (.seq (.ite (.v 66) .skip (.exit 3)) (.seq (.blk 4 (.seq (.reg
 [.p (.t 67) (.is 1 (.v 63) (.v 65)), .p (.t 68) (.ld (.t 67)), .p (.v 10) (.mv (.t 68))]) (.seq (.reg [.p (.t 69) (.mv (.v 1)), .e (.t 70) (.call (ι.f 213) [.v 8, .t 69])]) (.reg [.p (.t 71) (.mv (.v
 10)), .e (.t 72) (.call (ι.f 213) [.v 8, .t 71])])))) (.reg [.p (.t 73) (.ar .add .i64 (.v 65) (.c (.int .i64 1))), .p (.v 65) (.mv (.t 73))]))))))) (.seq (.reg [.e (.t 74) (.call (ι.f 224) [.v 8]),
 .p (.v 4) (.mv (.t 74))]) .ret)))))))))
def r_sjoin : List RV := [.t 4]
def tlJ (l : List (List UInt8)) : List UInt8 := l.flatMap fun w => 32 :: w
def joinS (l : List (List UInt8)) : List UInt8 := l.headD [] ++ tlJ l.tail
def sumJ (l : List (List UInt8)) : Nat := (l.map List.length).sum
theorem sumJ_le {l : List (List UInt8)} {c : Nat} (h : ∀ w ∈ l, w.length <= c) : sumJ l <= c * l.length := by
 induction l with
 | nil => simp [sumJ]
 | cons w l ih =>
  have h1 := h w List.mem_cons_self
  have h2 := ih fun x hx => h x (List.mem_cons_of_mem _ hx)
  unfold sumJ at *
  rw [List.map_cons, List.sum_cons, List.length_cons, Nat.mul_succ]
  omega
theorem tlJ_len (l : List (List UInt8)) : (tlJ l).length = sumJ l + l.length := by
 induction l with
 | nil => rfl
 | cons w l ih =>
  unfold tlJ sumJ at *
  rw [List.flatMap_cons, List.length_append, ih, List.map_cons, List.sum_cons, List.length_cons, List.length_cons]
  omega
theorem tlJ_snoc (l : List (List UInt8)) (w : List UInt8) : tlJ (l ++ [w]) = tlJ l ++ 32 :: w := by simp [tlJ]
theorem quoJ : ∀ m : Fin 100, 1 <= m.val -> decide ((1 : Int) ≥ IntKind.i64.wrap (Int.tdiv 9223372036854775807 ((m.val : Nat) : Int))) = false := by decide +kernel
theorem headD_0 {α : Type} (d : α) : ∀ (l : List α) (h : 0 < l.length), l.headD d = l[0]
 | x :: l, _ => rfl
structure JoinC (P : Program) (ι : Ids) : Prop where
 grow : BGrowSpec P ι (ι.f 427)
 ws : BwsSpec P ι (ι.f 213)
 str : BStrSpec P ι (ι.f 224)
def JoinSpec (P : Program) (k : FuncId) : Prop := ∀ (l : List (List UInt8)) (v : Value) (H : Hp), SlR H v (sL l) -> 2 <= l.length -> l.length <= 100 -> (∀ w ∈ l, w.length <= 1000) -> CallsM P k #[v, .string ⟨#[32]⟩] H fun r H' => r = .string ⟨(joinS l).toArray⟩ /\ Keep (fun _ => False) H H'
theorem sjoin_ok {P : Program} {ι : Ids} {k : FuncId} (hk : FnIs P k (c_sjoin ι) r_sjoin 2) (c : JoinC P ι) : JoinSpec P k := by
 intro l v H hv h2 hl hw
 obtain ⟨Q, hQ⟩ : ∃ Q : Value -> Hp -> Prop, Q = fun r H' => r = .string ⟨(joinS l).toArray⟩ /\ Keep (fun _ => False) H H' := ⟨_, rfl⟩
 rw [<- hQ]
 refine calls_of_vc hk (args := [_, _]) (by simp) ?_
 unfold c_sjoin r_sjoin
 have hlv : lenV v = l.length := by rw [hv.len]; simp [sL]
 have d0 : ((l.length : Int) == 0) = false := by rw [beq_eq_false_iff_ne]; omega
 have d1 : ((l.length : Int) == 1) = false := by rw [beq_eq_false_iff_ne]; omega
 have g0 : decide ((1 : Int) > 0) = true := rfl
 have w1 : IntKind.i64.wrap ((l.length : Int) - 1) = ((l.length - 1 : Nat) : Int) := by rw [IntWalk.i64_in _ (by omega)]; omega
 have w2 := quoJ ⟨l.length - 1, by omega⟩ (show 1 <= l.length - 1 by omega)
 have w2 : decide ((1 : Int) ≥ IntKind.i64.wrap (Int.tdiv 9223372036854775807 ((l.length - 1 : Nat) : Int))) = false := w2
 have w3 : IntKind.i64.wrap (1 * ((l.length - 1 : Nat) : Int)) = ((l.length - 1 : Nat) : Int) := by rw [Int.one_mul, IntWalk.i64_in _ (by omega)]
 have w4 : IntKind.i64.wrap (0 + ((l.length - 1 : Nat) : Int)) = ((l.length - 1 : Nat) : Int) := by rw [Int.zero_add, IntWalk.i64_in _ (by omega)]
 have hz : ((l.length - 1 : Nat) : Int) ≠ 0 := by omega
 simp -implicitDefEqProofs only [go_sem, zS, ↓reduceIte, Za, Zb, Zc, reduceCtorEq, zU, zV, Zf, Zg, Zh, Zi, Zd, Ze, zF, hv.isSl, hlv, d0, d1, g0, w1, w2, w3, w4]
 refine ⟨hz, ?_⟩
 have hsum := sumJ_le hw
 refine vc_range l.length [42, 7, 49, 5, 41] rfl rfl (by omega) (by simp -implicitDefEqProofs only [go_sem, zS, ↓reduceIte, Za, Zb, Zc, reduceCtorEq, kont_eq, zU, zV, Zf, Zg, Zh, Zi, Zd, Ze]) (by simp -implicitDefEqProofs only [go_sem, zS, ↓reduceIte, Za, Zb, Zc, reduceCtorEq, kont_eq, zU, zV, Zf, Zg, Zh, Zi, Zd, Ze]) (fun i g X => g 5 = .int .i64 ((l.length - 1 + sumJ (l.take i) : Nat) : Int) /\ X = H) ⟨by simp -implicitDefEqProofs only [go_sem, zS, ↓reduceIte, Za, Zb, Zc, reduceCtorEq, kont_eq, zU, zV, Zf, Zg, Zh, Zi, Zd, Ze]; rfl, rfl⟩ ?_ ?_
 ·rintro i g X hi gi gn ⟨g5, rfl⟩
  simp -implicitDefEqProofs only [go_sem, zS, ↓reduceIte, Za, Zb, Zc, reduceCtorEq, kont_eq, zU, zV, Zf, Zg, Zh, Zi, Zd, Ze] at gi gn g5
  obtain ⟨b, o, cc, he, hcc, hcell⟩ := hv.cells (by intro e; have := congrArg List.length e; simp [sL] at this; rw [this] at hi; simp at hi)
  have hsl : (sL l).length = l.length := by simp [sL]
  have hci := hcell i (by omega)
  have hli : (sL l)[i]? = some (.string ⟨l[i].toArray⟩) := by simp [sL, hi]
  rw [hli] at hci
  rw [hsl] at he
  have hwi := hw l[i] (List.getElem_mem hi)
  have hs1 : sumJ (l.take (i + 1)) = sumJ (l.take i) + l[i].length := by
   unfold sumJ; rw [List.take_succ_eq_append_getElem hi, List.map_append, List.sum_append]; simp
  have hs2 : sumJ (l.take i) <= 1000 * (l.take i).length := sumJ_le fun w hw' => hw w (List.mem_of_mem_take hw')
  rw [List.length_take] at hs2
  simp -implicitDefEqProofs only [go_sem, zS, ↓reduceIte, Za, Zb, Zc, reduceCtorEq, kont_eq, zU, zV, Zf, Zg, Zh, Zi, Zd, Ze, zF, gi, he, tn_cast, Nat.mul_one, hci, g5, ba_size]
  have e1 : IntKind.i64.wrap (9223372036854775807 - ((l.length - 1 + sumJ (l.take i) : Nat) : Int)) = 9223372036854775807 - ((l.length - 1 + sumJ (l.take i) : Nat) : Int) := IntWalk.i64_in _ (by omega)
  have e2 : decide (((l[i].length : Nat) : Int) > 9223372036854775807 - ((l.length - 1 + sumJ (l.take i) : Nat) : Int)) = false := decide_eq_false (by omega)
  have e3 : IntKind.i64.wrap (((l.length - 1 + sumJ (l.take i) : Nat) : Int) + ((l[i].length : Nat) : Int)) = ((l.length - 1 + sumJ (l.take (i + 1)) : Nat) : Int) := by rw [IntWalk.i64_in _ (by omega), hs1]; omega
  simp -implicitDefEqProofs only [go_sem, zS, ↓reduceIte, Za, Zb, Zc, reduceCtorEq, kont_eq, zU, zV, Zf, Zg, Zh, Zi, Zd, Ze, e1, e2, e3]
  exact ⟨by omega, by omega⟩
 ·rintro g X gi ⟨g5, rfl⟩
  simp -implicitDefEqProofs only [go_sem, zS, ↓reduceIte, Za, Zb, Zc, reduceCtorEq, kont_eq, zU, zV, Zf, Zg, Zh, Zi, Zd, Ze] at g5
  rw [List.take_of_length_le (Nat.le_refl _)] at g5
  simp -implicitDefEqProofs only [go_sem, zS, ↓reduceIte, Za, Zb, Zc, reduceCtorEq, zU, zV, Zf, Zg, Zh, Zi, Zd, Ze, zF, g5]
  have hN : (X.push (.cells #[.pointer none, .slice none 0 0] (ι.t 215)))[X.size]? = some (.cells #[.pointer none, .slice none 0 0] (ι.t 215) (0, 0)) := by simp
  have K1 : Keep (fun _ => False) X (X.push (.cells #[.pointer none, .slice none 0 0] (ι.t 215))) := (Keep.refl _ _).push _
  have z1 : (X.push (.cells #[.pointer none, .slice none 0 0] (ι.t 215))).size = X.size + 1 := by simp
  rw [kont_eq]
  generalize X.push (.cells #[.pointer none, .slice none 0 0] (ι.t 215)) = X1 at *
  simp -implicitDefEqProofs only [go_sem, zS, ↓reduceIte, Za, Zb, Zc, reduceCtorEq, zU, zV, Zf, Zg, Zh, Zi, Zd, Ze, zF, g5]
  refine (c.grow X.size _ X1 hN (by omega)).mono ?_
  rintro r X2 ⟨D2, K2⟩
  have D2 := D2.mono (F' := fun q => X.size <= q) fun q hq _ => by omega
  have K2 : Keep (fun _ => False) X X2 := K1.trans' K2 fun q hq e => by omega
  have s2 := K2.size
  have hsl : (sL l).length = l.length := by simp [sL]
  obtain ⟨b, o, cc, he, hcc, hcell⟩ := (hv.keep K2 (by simp)).cells (by intro e; have := congrArg List.length e; simp [sL] at this; rw [this] at h2; simp at h2)
  have hci := hcell 0 (by omega)
  have hli : (sL l)[0]? = some (.string ⟨l[0].toArray⟩) := by simp [sL, show 0 < l.length by omega]
  rw [hli] at hci
  rw [hsl] at he
  rw [Nat.add_zero] at hci
  have h0 : (0 : Int) < (l.length : Int) := by omega
  have ws : ∀ (Y : Hp) (m w : List UInt8), Keep (fun _ => False) X Y -> Bld ι (fun q => X.size <= q) Y X.size m -> m.length + w.length < 1000000 -> CallsM P (ι.f 213) #[.pointer (some ⟨X.size, 0, none⟩), .string ⟨w.toArray⟩] Y fun r Y' => Bld ι (fun q => X.size <= q) Y' X.size (m ++ w) /\ Keep (fun _ => False) X Y' := fun Y m w KY DY hmw => by
   refine (c.ws _ _ m w Y DY hmw).mono ?_
   rintro r Y' ⟨D', K'⟩
   have := KY.size
   exact ⟨D'.mono fun q hq _ => by omega, KY.trans' K' fun q hq e => by omega⟩
  have hw0 := hw l[0] (List.getElem_mem (show 0 < l.length by omega))
  rw [kont_eq]
  simp -implicitDefEqProofs only [go_sem, zS, ↓reduceIte, Za, Zb, Zc, reduceCtorEq, zU, zV, Zf, Zg, Zh, Zi, Zd, Ze, zF, he, hci, h0]
  refine (ws X2 [] l[0] K2 D2 (by simp; omega)).mono ?_
  rintro r X3 ⟨D3, K3⟩
  rw [List.nil_append] at D3
  have hd := hv.drop (n := 1) (by omega)
  rw [he] at hd
  have e10 : (((1 : Nat) : Int)) = (1 : Int) := rfl
  rw [e10] at hd
  obtain ⟨tv, htv⟩ : ∃ tv, tv = slV (.slice (some ⟨b, o, none⟩) l.length cc) 1 (some (1 : Int)) none := ⟨_, rfl⟩
  have hll : (sL l).drop 1 = sL l.tail := by simp [sL]
  have htl : l.tail.length = l.length - 1 := by simp
  rw [<- htv, hll] at hd
  have ltv : lenV tv = l.length - 1 := by rw [hd.len]; simp [sL]
  simp -implicitDefEqProofs only [go_sem, zS, ↓reduceIte, Za, Zb, Zc, reduceCtorEq, kont_eq, zU, zV, Zf, Zg, Zh, Zi, Zd, Ze] at htv
  have h1 : (1 : Int) <= (l.length : Int) := by omega
  rw [kont_eq]
  simp -implicitDefEqProofs only [go_sem, zS, ↓reduceIte, Za, Zb, Zc, reduceCtorEq, zU, zV, Zf, Zg, Zh, Zi, Zd, Ze, zF, h1, <- htv]
  refine ⟨hd.isSl, ?_⟩
  rw [ltv]
  have hwt : ∀ w ∈ l.tail, w.length <= 1000 := fun w h => hw w (List.mem_of_mem_tail h)
  have bnd : ∀ i, i <= l.length - 1 -> (l[0] ++ tlJ (l.tail.take i)).length <= 1000 + 1001 * i := fun i hi => by
   have h1 : sumJ (l.tail.take i) <= 1000 * (l.tail.take i).length := sumJ_le fun w hw' => hwt w (List.mem_of_mem_take hw')
   rw [List.length_append, tlJ_len]
   rw [List.length_take, htl, Nat.min_eq_left hi] at *
   omega
  refine vc_range (l.length - 1) [66, 10, 65] rfl rfl (by omega) (by simp -implicitDefEqProofs only [go_sem, zS, ↓reduceIte, Za, Zb, Zc, reduceCtorEq, kont_eq, zU, zV, Zf, Zg, Zh, Zi, Zd, Ze]) (by simp -implicitDefEqProofs only [go_sem, zS, ↓reduceIte, Za, Zb, Zc, reduceCtorEq, kont_eq, zU, zV, Zf, Zg, Zh, Zi, Zd, Ze]) (fun i g Y => Bld ι (fun q => X.size <= q) Y X.size (l[0] ++ tlJ (l.tail.take i)) /\ Keep (fun _ => False) X Y) ⟨by simpa [tlJ] using D3, K3⟩ ?_ ?_
  ·rintro i g Y hi gi gn ⟨DY, KY⟩
   simp -implicitDefEqProofs only [go_sem, zS, ↓reduceIte, Za, Zb, Zc, reduceCtorEq, kont_eq, zU, zV, Zf, Zg, Zh, Zi, Zd, Ze] at gi gn
   have hit : i < l.tail.length := by omega
   have tS := hd.keep KY (by simp)
   obtain ⟨b', o', c', he', hc', hcell'⟩ := tS.cells (by intro e; have := congrArg List.length e; simp [sL] at this; omega)
   have hsl' : (sL l.tail).length = l.length - 1 := by simp [sL]
   have hci' := hcell' i (by omega)
   have hli' : (sL l.tail)[i]? = some (.string ⟨l.tail[i].toArray⟩) := by simp [sL, hi]
   rw [hli'] at hci'
   rw [hsl'] at he'
   have hbi : (0 : Int) <= (i : Int) /\ (i : Int) < ((l.length - 1 : Nat) : Int) := by omega
   have b1 := bnd i (by omega)
   have hwi := hwt l.tail[i] (List.getElem_mem hit)
   rw [he']
   simp -implicitDefEqProofs only [go_sem, zS, ↓reduceIte, Za, Zb, Zc, reduceCtorEq, zU, zV, Zf, Zg, Zh, Zi, Zd, Ze, zF, gi, tn_cast, Nat.mul_one, hci', hbi]
   refine (ws Y _ [32] KY DY (by simp only [List.length_cons, List.length_nil]; omega)).mono ?_
   rintro r Y1 ⟨D4, K4⟩
   rw [kont_eq]
   simp -implicitDefEqProofs only [go_sem, zS, ↓reduceIte, Za, Zb, Zc, reduceCtorEq, zU, zV, Zf, Zg, Zh, Zi, Zd, Ze, zF]
   refine (ws Y1 _ l.tail[i] K4 D4 (by rw [List.length_append]; simp only [List.length_cons, List.length_nil]; omega)).mono ?_
   rintro r Y2 ⟨D5, K5⟩
   rw [kont_eq]
   simp -implicitDefEqProofs only [go_sem, zS, ↓reduceIte, Za, Zb, Zc, reduceCtorEq, kont_eq, zU, zV, Zf, Zg, Zh, Zi, Zd, Ze, zF]
   refine ⟨?_, K5⟩
   rw [List.take_succ_eq_append_getElem hit, tlJ_snoc]
   simpa [List.append_assoc] using D5
  ·rintro g Y gi ⟨DY, KY⟩
   rw [List.take_of_length_le (by omega)] at DY
   have b1 := bnd (l.length - 1) (Nat.le_refl _)
   rw [List.take_of_length_le (by omega)] at b1
   have hj : l[0] ++ tlJ l.tail = joinS l := by
    unfold joinS
    rw [headD_0 [] l (by omega)]
   have hne : l[0] ++ tlJ l.tail ≠ [] := by
    intro e
    have := congrArg List.length e
    rw [List.length_append, tlJ_len] at this
    simp only [List.length_nil] at this
    omega
   simp -implicitDefEqProofs only [go_sem, zS, ↓reduceIte, Za, Zb, Zc, reduceCtorEq, zU, zV, Zf, Zg, Zh, Zi, Zd, Ze, zF]
   refine (c.str _ _ _ Y DY hne (by omega)).mono ?_
   rintro r Y1 ⟨rfl, K4⟩
   rw [kont_eq]
   simp -implicitDefEqProofs only [go_sem, zS, ↓reduceIte, Za, Zb, Zc, reduceCtorEq, kont_eq, zU, zV, Zf, Zg, Zh, Zi, Zd, Ze, zF]
   rw [hQ, hj]
   exact ⟨rfl, KY.trans' K4 fun q hq e => by omega⟩
end Go.Mg
namespace Go.Mg
open Go Go.RowKit
set_option linter.all false
set_option maxRecDepth 100000
def c_prn1 (ι : Ids) : S :=
 .reg [.p (.t 3) (.mv (.v 0)), .e (.t 4) (.call (ι.f 447) [.t 3, .c (.string ⟨#[32]⟩)]), .p (.t 5) (.sadd (.t 4) (.c (.string ⟨#[10]⟩))), .e (.t 6) (.call (ι.f 213) [.v 1, .t 5])]
def r_prn1 : List RV := []
def LineSpec (P : Program) (ι : Ids) (k : FuncId) : Prop := ∀ (F : Nat -> Prop) (b : Nat) (l : List UInt8) (w : List (List UInt8)) (v : Value) (H : Hp), Bld ι F H b l -> SlR H v (sL w) -> 2 <= w.length -> w.length <= 100 -> (∀ x ∈ w, x.length <= 1000) -> l.length <= 800000 →
 CallsM P k #[v, .pointer (some ⟨b, 0, none⟩)] H fun r H' => Bld ι (fun q => F q \/ H.size <= q) H' b (l ++ (joinS w ++ [10])) /\ Keep F H H'
theorem joinS_len {w : List (List UInt8)} (h2 : 2 <= w.length) (h : w.length <= 100) (hw : ∀ x ∈ w, x.length <= 1000) : (joinS w).length <= 101100 := by
 have h1 := hw (w.headD []) (by match w, h2 with | x :: l, _ => exact List.mem_cons_self)
 have h2 : sumJ w.tail <= 1000 * w.tail.length := sumJ_le fun x hx => hw x (List.mem_of_mem_tail hx)
 unfold joinS
 rw [List.length_append, tlJ_len]
 rw [List.length_tail] at *
 omega
theorem prn1_ok {P : Program} {ι : Ids} {k : FuncId} (hk : FnIs P k (c_prn1 ι) r_prn1 2) (hj : JoinSpec P (ι.f 447)) (hw : BwsSpec P ι (ι.f 213)) : LineSpec P ι k := by
 intro F b l w v H hB hv h2 h100 hw1 hl
 refine calls_of_vc hk (args := [_, _]) (by simp) ?_
 unfold c_prn1 r_prn1
 have jl := joinS_len h2 h100 hw1
 simp -implicitDefEqProofs only [go_sem, zS, ↓reduceIte, Za, Zb, Zc, reduceCtorEq, zU, zV, Zf, Zg, Zh, Zi, Zd, Ze, zF]
 refine (hj w v H hv h2 h100 hw1).mono ?_
 rintro r H1 ⟨rfl, K1⟩
 have hsa : (ByteArray.mk (joinS w).toArray) ++ (ByteArray.mk #[10]) = ⟨(joinS w ++ [10]).toArray⟩ := ba_app (joinS w) [10]
 rw [kont_eq]
 simp -implicitDefEqProofs only [go_sem, zS, ↓reduceIte, Za, Zb, Zc, reduceCtorEq, zU, zV, Zf, Zg, Zh, Zi, Zd, Ze, zF, hsa]
 refine ⟨by unfold maxLen; omega, (hw F b l (joinS w ++ [10]) H1 (hB.keep K1 (by simp)) (by rw [List.length_append]; simp only [List.length_cons, List.length_nil]; omega)).mono ?_⟩
 rintro r H2 ⟨D2, K2⟩
 have s1 := K1.size
 rw [kont_eq]
 simp -implicitDefEqProofs only [go_sem, zS, ↓reduceIte, Za, Zb, Zc, reduceCtorEq, kont_eq, zU, zV, Zf, Zg, Zh, Zi, Zd, Ze, zF]
 exact ⟨D2.mono fun q hq _ => by rcases hq with h | h; exact .inl h; exact .inr (by omega), K1.any.trans K2⟩
end Go.Mg
