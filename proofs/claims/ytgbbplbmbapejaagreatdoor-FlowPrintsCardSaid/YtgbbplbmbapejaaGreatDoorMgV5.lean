/- Several texts of ours in one. No conditions. -/
import Derived.Test.YtgbbplbmbapejaaGreatDoorMgV3
open Nat renaming reduceEqDiff → Za, reduceAdd → Zb, reduceMul → Zc, reduceLeDiff → Zd, reduceLT → Ze
open Int renaming reduceBEq → Zf, reduceBNe → Zg, reduceLE → Zh, reduceLT → Zi
namespace Go.Mg
open Go Go.RowKit
set_option linter.all false
set_option maxRecDepth 100000
def c_usrT (ι : Ids) : S :=
 (.reg [.p (.t 26) (.mv (.v 5)), .p (.t 27) (.mv (.v 7)), .p (.t 28) (.sh .shl .u64 (.t 27) (.c (.int .u64 1))), .e (.t 29) (.bldF (ι.t 28) 1 1 [.t 28]), .e (.t 30) (.app false (ι.t 28) 1 8 #[.int .u64
 0] (.t 26) (.t 29)), .p (.v 5) (.mv (.t 30))])
def c_rusers (ι : Ids) : S :=
 .seq (.reg [.e (.v 2) (.box (ι.t 288) (.v 0)), .e (.v 3) (.box (ι.t 289) (.v 1)), .p (.v 4) (.mv (.c (.slice .none 0 0)))]) (.seq (.reg [.p (.v 5) (.mv (.c (.slice .none 0 0)))]) (.seq (.seq (.reg [.p
 (.t 8) (.fa 0 (.v 3)), .p (.t 9) (.ld (.t 8)), .p (.v 10) (.m (.lenl (.t 9))), .p (.v 11) (.mv (.c (.int .i64 0)))]) (.blk 0 (.loop (.seq (.reg [.p (.v 12) (.cm .lss .i64 (.v 11) (.v 10))]) (.seq
 (.ite (.v 12) .skip (.exit 0)) (.seq (.blk 1 (.seq (.reg [.p (.t 13) (.mv (.v 11)), .p (.v 6) (.mv (.t 13))]) (.seq (.reg [.p (.v 7) (.mv (.c (.int .u64 15)))]) (.seq (.seq (.reg [.p (.t 14) (.mv (.v
 6)), .p (.t 15) (.fa 6 (.v 2)), .p (.t 16) (.ld (.t 15)), .p (.t 17) (.m (.lenl (.t 16))), .p (.v 18) (.cm .lss .i64 (.t 14) (.t 17))]) (.ite (.v 18) (.reg [.p (.t 19) (.fa 6 (.v 2)), .p (.t 20) (.ld
 (.t 19)), .p (.t 21) (.mv (.v 6)), .p (.t 22) (.is 1 (.t 20) (.t 21)), .p (.t 23) (.ld (.t 22)), .p (.t 24) (.dv .rem .u8 (.t 23) (.c (.int .u8 16))), .p (.t 25) (.ii .u64 (.t 24)), .p (.v 7) (.mv (.t
 25))]) .skip)) (c_usrT ι))))) (.reg [.p (.t 31) (.ar .add .i64 (.v 11) (.c (.int .i64 1))), .p (.v 11) (.mv (.t 31))]))))))) (.seq (.reg [.p (.t 32) (.mv (.v 5)), .p (.v 4) (.mv (.t 32))]) .ret)))
def r_rusers : List RV := [.t 4]
def c_flwS (ι : Ids) : S :=
 (.reg [.p (.t 15) (.fa 0 (.v 3)), .p (.t 16) (.ld (.t 15)), .p (.t 17) (.fa 0 (.v 5)), .p (.t 18) (.ld (.t 17)), .p (.t 19) (.fa 1 (.v 5)), .p (.t 20) (.ld (.t 19)), .p (.t 21) (.m (.bld #[.string
 ⟨#[]⟩, .int .i64 0] [(0, (1, .t 18)), (1, (1, .t 20))])), .e (.t 22) (.bldF (ι.t 297) 2 1 [.t 21]), .e (.t 23) (.app false (ι.t 297) 2 24 #[.string ⟨#[]⟩, .int .i64 0] (.t 16) (.t 22)), .p (.t 24)
 (.fa 0 (.v 3)), .e .no (.st (.t 24) (.t 23))])
def c_flwC (ι : Ids) : S :=
 (.dr (.px (.t 26) .none (.fa 1 (.v 1)) (.px (.t 27) .none (.ld (.t 26)) (.px (.t 29) .none (.fa 2 (.v 1)) (.px (.t 30) .none (.ld (.t 29)) (.px (.t 32) .none (.fa 3 (.v 1)) (.px (.t 33) .none (.ld (.t
 32)) (.wcons (.t 28) .none (.call (ι.f 204) [.t 27]) (.px (.t 35) .none (.fa 1 (.v 3)) (.wcons (.t 31) .none (.call (ι.f 204) [.t 30]) (.wcons (.t 34) .none (.call (ι.f 204) [.t 33]) (.wcons .no .none
 (.st (.t 35) (.t 28)) (.px (.t 36) .none (.fa 2 (.v 3)) (.wcons .no .none (.st (.t 36) (.t 31)) (.px (.t 37) .none (.fa 3 (.v 3)) (.wcons .no .none (.st (.t 37) (.t 34)) .done .wnil)) .wnil)) .wnil)
 .wnil) .wnil)) .wnil))))))))
def c_flwM (ι : Ids) : S :=
 (.dr (.px (.t 45) .none (.fa 4 (.v 3)) (.px (.t 47) .none (.fa 0 (.v 7)) (.px (.t 48) .none (.ld (.t 47)) (.px (.t 49) .none (.fa 1 (.v 7)) (.px (.t 50) .none (.ld (.t 49)) (.wcons (.t 46) .none (.rd
 (.ld (.t 45))) (.wcons (.t 51) .none (.call (ι.f 283) [.t 50]) (.px (.t 52) .none (.m (.bld #[.int .i64 0, .slice .none 0 0] [(0, (1, .t 48)), (1, (1, .t 51))])) (.wcons (.t 53) .none (.bldF (ι.t 298)
 2 1 [.t 52]) (.wcons (.t 54) .none (.app false (ι.t 298) 2 32 #[.int .i64 0, .slice .none 0 0] (.t 46) (.t 53)) (.px (.t 55) .none (.fa 4 (.v 3)) (.wcons .no .none (.st (.t 55) (.t 54)) .done .wnil))
 .wnil) .wnil)) .wnil) (.wcons (.t 51) .none (.call (ι.f 283) [.t 50]) (.px (.t 52) .none (.m (.bld #[.int .i64 0, .slice .none 0 0] [(0, (1, .t 48)), (1, (1, .t 51))])) (.wcons (.t 46) .none (.rd (.ld
 (.t 45))) (.wcons (.t 53) .none (.bldF (ι.t 298) 2 1 [.t 52]) (.wcons (.t 54) .none (.app false (ι.t 298) 2 32 #[.int .i64 0, .slice .none 0 0] (.t 46) (.t 53)) (.px (.t 55) .none (.fa 4 (.v 3))
 (.wcons .no .none (.st (.t 55) (.t 54)) .done .wnil)) .wnil) .wnil) (.wcons (.t 53) .none (.bldF (ι.t 298) 2 1 [.t 52]) (.wcons (.t 46) .none (.rd (.ld (.t 45))) (.wcons (.t 54) .none (.app false (ι.t
 298) 2 32 #[.int .i64 0, .slice .none 0 0] (.t 46) (.t 53)) (.px (.t 55) .none (.fa 4 (.v 3)) (.wcons .no .none (.st (.t 55) (.t 54)) .done .wnil)) .wnil) .wnil) .wnil))) .wnil))))))))
def c_lflow (ι : Ids) : S :=
 .seq (.reg [.e (.v 1) (.box (ι.t 289) (.v 0)), .e (.v 2) (.new (ι.t 296) #[.slice .none 0 0, .slice .none 0 0, .slice .none 0 0, .slice .none 0 0, .slice .none 0 0])]) (.seq (.reg [.e (.v 3) (.new
 (ι.t 296) #[.slice .none 0 0, .slice .none 0 0, .slice .none 0 0, .slice .none 0 0, .slice .none 0 0])]) (.seq (.seq (.reg [.p (.t 8) (.fa 0 (.v 1)), .p (.v 9) (.ld (.t 8)), .p (.v 10) (.m (.lenl (.v
 9))), .p (.v 11) (.mv (.c (.int .i64 0)))]) (.blk 0 (.loop (.seq (.reg [.p (.v 12) (.cm .lss .i64 (.v 11) (.v 10))]) (.seq (.ite (.v 12) .skip (.exit 0)) (.seq (.blk 1 (.seq (.reg [.p (.t 13) (.is 2
 (.v 9) (.v 11)), .p (.t 14) (.m (.ldn 2 (.t 13))), .e (.v 5) (.new (ι.t 290) #[.string ⟨#[]⟩, .int .i64 0]), .e .no (.stn 2 (.v 5) (.t 14))]) (c_flwS ι))) (.reg [.p (.t 25) (.ar .add .i64 (.v 11) (.c
 (.int .i64 1))), .p (.v 11) (.mv (.t 25))]))))))) (.seq (c_flwC ι) (.seq (.seq (.reg [.p (.t 38) (.fa 4 (.v 1)), .p (.v 39) (.ld (.t 38)), .p (.v 40) (.m (.lenl (.v 39))), .p (.v 41) (.mv (.c (.int
 .i64 0)))]) (.blk 2 (.loop (.seq (.reg [.p (.v 42) (.cm .lss .i64 (.v 41) (.v 40))]) (.seq (.ite (.v 42) .skip (.exit 2)) (.seq (.blk 3 (.seq (.reg [.p (.t 43) (.is 2 (.v 39) (.v 41)), .p (.t 44) (.m
 (.ldn 2 (.t 43))), .e (.v 7) (.new (ι.t 291) #[.int .i64 0, .int .u64 0]), .e .no (.stn 2 (.v 7) (.t 44))]) (c_flwM ι))) (.reg [.p (.t 56) (.ar .add .i64 (.v 41) (.c (.int .i64 1))), .p (.v 41) (.mv
 (.t 56))]))))))) (.seq (.reg [.p (.t 57) (.m (.ldn 5 (.v 3))), .e .no (.stn 5 (.v 2) (.t 57))]) .ret)))))
def r_lflow : List RV := [.cn 2 5]
def c_lmakf (ι : Ids) : S :=
 .seq (.reg [.e (.v 1) (.box (ι.t 288) (.v 0)), .e (.v 2) (.new (ι.t 296) #[.slice .none 0 0, .slice .none 0 0, .slice .none 0 0, .slice .none 0 0, .slice .none 0 0]), .p (.v 3) (.mv (.c (.slice .none
 0 0))), .e (.v 4) (.new (ι.t 289) #[.slice .none 0 0, .slice .none 0 0, .slice .none 0 0, .slice .none 0 0, .slice .none 0 0]), .p (.v 5) (.mv (.c (.slice .none 0 0)))]) (.seq (.reg [.p (.t 11) (.m
 (.ldn 7 (.v 1))), .e (.t 12) (.call (ι.f 292) [.t 11]), .e (.v 6) (.new (ι.t 289) #[.slice .none 0 0, .slice .none 0 0, .slice .none 0 0, .slice .none 0 0, .slice .none 0 0]), .e .no (.stn 5 (.v 6)
 (.t 12))]) (.seq (.reg [.p (.t 13) (.m (.ldn 7 (.v 1))), .p (.t 14) (.m (.ldn 5 (.v 6))), .e (.t 15) (.call (ι.f 295) [.t 13, .t 14]), .p (.v 7) (.mv (.t 15))]) (.seq (.reg [.p (.v 8) (.mv (.c (.slice
 .none 0 0)))]) (.seq (.seq (.reg [.p (.v 16) (.mv (.v 7)), .p (.v 17) (.m (.lenl (.v 16))), .p (.v 18) (.mv (.c (.int .i64 0)))]) (.blk 0 (.loop (.seq (.reg [.p (.v 19) (.cm .lss .i64 (.v 18) (.v
 17))]) (.seq (.ite (.v 19) .skip (.exit 0)) (.seq (.blk 1 (.seq (.reg [.p (.t 20) (.is 1 (.v 16) (.v 18)), .p (.t 21) (.ld (.t 20)), .p (.v 10) (.mv (.t 21))]) (.reg [.p (.t 22) (.mv (.v 8)), .p (.t
 23) (.mv (.v 10)), .e (.t 24) (.call (ι.f 283) [.t 23]), .e (.t 25) (.bldF (ι.t 128) 1 1 [.t 24]), .e (.t 26) (.app false (ι.t 128) 1 24 #[.slice .none 0 0] (.t 22) (.t 25)), .p (.v 8) (.mv (.t
 26))]))) (.reg [.p (.t 27) (.ar .add .i64 (.v 18) (.c (.int .i64 1))), .p (.v 18) (.mv (.t 27))]))))))) (.seq (.dr (.px (.t 28) .none (.m (.ldn 5 (.v 6))) (.px (.t 30) .none (.mv (.v 8)) (.px (.t 31)
 .none (.m (.ldn 5 (.v 6))) (.px (.t 32) .none (.mv (.v 7)) (.wcons (.t 29) .none (.call (ι.f 299) [.t 28]) (.wcons .no .none (.stn 5 (.v 2) (.t 29)) (.px (.v 3) .none (.mv (.t 30)) (.wcons .no .none
 (.stn 5 (.v 4) (.t 31)) (.px (.v 5) .none (.mv (.t 32)) .done) .wnil)) .wnil) .wnil)))))) .ret)))))
def r_lmakf : List RV := [.cn 2 5, .t 3, .cn 4 5, .t 5]
def ClnSpec {α : Type} (enc : α -> List Value) (P : Program) (k : FuncId) : Prop := ∀ (l : List α) (v : Value) (H : Hp), SlE enc 2 H v l -> l.length < 1000000 -> CallsM P k #[v] H fun r H' => OwE enc 2 H' r l /\ (∀ q, ownB r q -> H.size <= q) /\ Keep (fun _ => False) H H'
theorem clnPG_ok {α : Type} {enc : α -> List Value} (hl : ∀ x, (enc x).length = 2) (h1 : ∀ x, ∀ v ∈ enc x, v.oneCell' = true) {P : Program} {ι : Ids} {k : FuncId} (hk : FnIs P k (c_clnP ι) r_clnP 1) : ClnSpec enc P k := by
 intro l v H hv hn
 refine calls_of_vc hk (args := [_]) (by simp) ?_
 unfold c_clnP r_clnP
 obtain ⟨a, c, rfl, hc⟩ := hv.mk
 cases a with
 | none =>
  have h0 : l = [] := by
   rcases hv with ⟨_, _, _, h⟩ | ⟨_, _, _, _, h, _⟩
   ·exact h
   ·cases h
  subst h0
  simp -implicitDefEqProofs only [go_sem, zS, ↓reduceIte, Za, Zb, Zc, reduceCtorEq, kont_eq]
  exact ⟨OwE.nil _, fun k h => h.elim, Keep.refl _ _⟩
 | some p =>
  simp -implicitDefEqProofs only [go_sem, zS, ↓reduceIte, Za, Zb, Zc, reduceCtorEq]
  refine kont_news fun H1 b1 e1 z1 B1 K1 => ?_
  have s1 := K1.size
  simp -implicitDefEqProofs only [go_sem, zS, ↓reduceIte, Za, Zb, Zc, reduceCtorEq]
  have hs0 : OwE enc 2 H1 (.slice (some ⟨b1, 0, none⟩) 0 0) [] := OwE.bl B1 rfl (by omega) (by omega) (by simp)
  refine app_EN (l := ([] : List α)) (m := l) H.size hl h1 hs0 (fun q hq => by have hq : q = b1 := hq; omega) (by omega) (hv.keep0 K1) rfl (by omega) (by simp; omega) fun v3 H3 O3 own3 K3 => ?_
  rw [List.nil_append] at O3
  simp -implicitDefEqProofs only [go_sem, zS, ↓reduceIte, Za, Zb, Zc, reduceCtorEq, kont_eq]
  exact ⟨O3, own3, K1.at_old K3 (Nat.le_refl _)⟩
def maskF (r : RawF) (k : Nat) : UInt64 := UInt64.ofNat ((if k < r.el.length then (r.el.getD k 0).toNat % 16 else 15) * 2)
def masksF (r : RawF) : List UInt64 := (List.range (nuF r)).map (maskF r)
theorem masksF_len (r : RawF) : (masksF r).length = nuF r := by simp [masksF]
theorem maskF_nat (r : RawF) (k : Nat) : (maskF r k).toNat = (if k < r.el.length then (r.el.getD k 0).toNat % 16 else 15) * 2 := by
 unfold maskF
 rw [UInt64.toNat_ofNat']
 apply Nat.mod_eq_of_lt
 split <;> omega
theorem usrT_ok {P : Program} {ι : Ids} {f : Fr} {A : Hp} {C mm : Nat} {lv : Value} {L : List UInt64} {x : UInt64} {Qb : Ex -> Fr -> Hp -> Prop} (h5 : f 5 = lv) (h7 : f 7 = .int .u64 (mm : Int)) (hm : mm < 16) (hx : x.toNat = mm * 2) (hL : L.length <= 1000)
  (O : OwS A lv (w64 L)) (o : ∀ q, ownB lv q -> C <= q) (hC : C <= A.size)
  (hK : ∀ v' A', OwS A' v' (w64 (L ++ [x])) -> (∀ q, ownB v' q -> C <= q) -> Keep (fun q => C <= q) A A' -> Qb .n (upd f 5 v') A') : vc P (c_usrT ι) Qb f A := by
 unfold c_usrT
 have e1 : ((1 : Int)).toNat = 1 := rfl
 have w1 : IntKind.u64.wrap ((mm : Int) * 2 ^ 1) = (x.toNat : Int) := by rw [IntKind.wrap_u64]; omega
 simp -implicitDefEqProofs only [go_sem, zS, ↓reduceIte, Za, Zb, Zc, reduceCtorEq, zU, zV, Zf, Zg, Zh, Zi, Zd, Ze, zF, h5, h7, e1, w1]
 refine kont_news fun A2 b2 e2 z2 B2 K2 => ?_
 have B2' : Bl A2 b2 (w64 [x]) := B2
 simp -implicitDefEqProofs only [go_sem, zS, ↓reduceIte, Za, Zb, Zc, reduceCtorEq, kont_eq, zU, zV, Zf, Zg, Zh, Zi, Zd, Ze, zF]
 refine app_slN C (O.keep K2 (by simp)) o (by omega) (SlR.bl B2' 0 1 1 (by omega) (by simp [w64_len])) (w64_a1 [x]) rfl (by omega) (by rw [w64_len]; simp [w64_len]; omega) fun v' A3 O3 o3 K3 => ?_
 simp -implicitDefEqProofs only [go_sem, zS, ↓reduceIte, Za, Zb, Zc, reduceCtorEq, kont_eq, zU, zV, Zf, Zg, Zh, Zi, Zd, Ze]
 exact hK v' A3 (by rw [w64_app]; exact O3) o3 (K2.any.trans K3)
def RUsersSpec (P : Program) (k : FuncId) : Prop := ∀ (r : RawF) (v w : Value) (H : Hp), RawFV H v r -> RefFl H w (mkF r) -> CallsM P k #[v, w] H fun x H' => OwS H' x (w64 (masksF r)) /\ (∀ q, ownB x q -> H.size <= q) /\ Keep (fun _ => False) H H'
theorem rusers_ok {P : Program} {ι : Ids} {k : FuncId} (hk : FnIs P k (c_rusers ι) r_rusers 2) : RUsersSpec P k := by
 intro r v w H hv hw
 obtain ⟨hn, ro, be, di, sa, mo, el, rfl, hro, hbe, hdi, hsa, hmo, hel⟩ := hv
 obtain ⟨ws, wb, wd, wa, wm, rfl, h1, h2, h3, h4, h5⟩ := hw
 obtain ⟨Q, hQ⟩ : ∃ Q : Value -> Hp -> Prop, Q = fun x H' => OwS H' x (w64 (masksF r)) /\ (∀ q, ownB x q -> H.size <= q) /\ Keep (fun _ => False) H H' := ⟨_, rfl⟩
 rw [<- hQ]
 refine calls_of_vc hk (args := [_, _]) (by simp) ?_
 unfold c_rusers r_rusers
 simp -implicitDefEqProofs only [go_sem, zS, ↓reduceIte, Za, Zb, Zc, reduceCtorEq, zU, zV, Zf, Zg, Zh, Zi, Zd, Ze, zF]
 refine kont_new fun H1 b1 e1 z1 B1 K1 => ?_
 have B1' : Bl H1 b1 [.int .u8 (r.n : Int), ro, be, di, sa, mo, el] := B1
 simp -implicitDefEqProofs only [go_sem, zS, ↓reduceIte, Za, Zb, Zc, reduceCtorEq, zU, zV, Zf, Zg, Zh, Zi, Zd, Ze, zF]
 refine kont_new fun H2 b2 e2 z2 B2 K2 => ?_
 have B12 := K2.bl B1' (by simp)
 have B2' : Bl H2 b2 [ws, wb, wd, wa, wm] := B2
 have K02 := K1.trans K2
 have c0 : cell H2 ⟨b2, 0, none⟩ = some ws := by rw [B2'.cell]; rfl
 have hsn : (mkF r).st.length = nuF r := mkF_len r
 have hn5 := nuF_lt r
 simp -implicitDefEqProofs only [go_sem, zS, ↓reduceIte, Za, Zb, Zc, reduceCtorEq, kont_eq, zU, zV, Zf, Zg, Zh, Zi, Zd, Ze, zF, c0, h1.isSl, h1.len, hsn]
 refine vc_range (nuF r) [12, 6, 7, 18, 5, 11] rfl rfl (by omega) (by simp -implicitDefEqProofs only [go_sem, zS, ↓reduceIte, Za, Zb, Zc, reduceCtorEq, kont_eq, zU, zV, Zf, Zg, Zh, Zi, Zd, Ze]) (by simp -implicitDefEqProofs only [go_sem, zS, ↓reduceIte, Za, Zb, Zc, reduceCtorEq, kont_eq, zU, zV, Zf, Zg, Zh, Zi, Zd, Ze]) (fun i f A => ∃ lv, f 5 = lv /\ OwS A lv (w64 ((List.range i).map (maskF r))) /\ (∀ q, ownB lv q -> H2.size <= q) /\ Keep (fun _ => False) H2 A) ⟨_, by simp -implicitDefEqProofs only [go_sem, zS, ↓reduceIte, Za, Zb, Zc, reduceCtorEq, kont_eq, zU, zV, Zf, Zg, Zh, Zi, Zd, Ze], OwS.nil _, fun q h => h.elim, Keep.refl _ _⟩ ?_ ?_
 ·rintro i g A hi gi gn ⟨lv, g5, OA, oA, KA⟩
  simp -implicitDefEqProofs only [go_sem, zS, ↓reduceIte, Za, Zb, Zc, reduceCtorEq, kont_eq, zU, zV, Zf, Zg, Zh, Zi, Zd, Ze] at gi gn g5
  have sA := KA.size
  have sH := K02.size
  have c6 : cell A ⟨b1, 6, none⟩ = some el := by rw [(KA.bl B12 (by simp)).cell]; rfl
  have elA := (hel.keep K02 (by simp)).keep KA (by simp)
  simp -implicitDefEqProofs only [go_sem, zS, ↓reduceIte, Za, Zb, Zc, reduceCtorEq, kont_eq, zU, zV, Zf, Zg, Zh, Zi, Zd, Ze, zF, gi, c6, elA.isSl, elA.len, w8_len]
  refine iteV_dec (fun hlt => ?_) (fun hge => ?_)
  ·have hlt : i < r.el.length := by omega
   obtain ⟨rb, rof, rc, hre, hrc, hcell⟩ := elA.cells (by intro e; have := w8_len r.el; rw [e] at this; simp at this; omega)
   have hci := hcell i (by rw [w8_len]; exact hlt)
   rw [w8_get _ _ hlt] at hci
   have hel4 := (r.el.getD i 0).toNat_lt
   have m4 : (((r.el.getD i 0).toNat : Int)).tmod 16 = (((r.el.getD i 0).toNat % 16 : Nat) : Int) := tmod_nat _ 16
   have w4 : IntKind.u64.wrap (((r.el.getD i 0).toNat % 16 : Nat) : Int) = (((r.el.getD i 0).toNat % 16 : Nat) : Int) := by rw [IntKind.wrap_u64]; omega
   simp -implicitDefEqProofs only [go_sem, zS, ↓reduceIte, Za, Zb, Zc, reduceCtorEq, kont_eq, zU, zV, Zf, Zg, Zh, Zi, Zd, Ze, zF, gi, hre, tn_cast, hci, m4, w4, w8_len]
   refine ⟨by omega, by decide, ?_⟩
   refine usrT_ok (mm := (r.el.getD i 0).toNat % 16) (x := maskF r i) (L := (List.range i).map (maskF r)) (C := H2.size) (by simp -implicitDefEqProofs only [go_sem, zS, ↓reduceIte, Za, Zb, Zc, reduceCtorEq, kont_eq, zU, zV, Zf, Zg, Zh, Zi, Zd, Ze, g5]) (by simp -implicitDefEqProofs only [go_sem, zS, ↓reduceIte, Za, Zb, Zc, reduceCtorEq, kont_eq, zU, zV, Zf, Zg, Zh, Zi, Zd, Ze]) (by omega) (by rw [maskF_nat, if_pos hlt]) (by simp; omega) OA oA (by omega) fun v' A' O' o' K' => ?_
   simp -implicitDefEqProofs only [go_sem, zS, ↓reduceIte, Za, Zb, Zc, reduceCtorEq, kont_eq, zU, zV, Zf, Zg, Zh, Zi, Zd, Ze]
   exact ⟨v', rfl, by rw [List.map_append]; exact O', o', KA.trans' K' fun q hq h => by omega⟩
  ·refine usrT_ok (mm := 15) (x := maskF r i) (L := (List.range i).map (maskF r)) (C := H2.size) (by simp -implicitDefEqProofs only [go_sem, zS, ↓reduceIte, Za, Zb, Zc, reduceCtorEq, kont_eq, zU, zV, Zf, Zg, Zh, Zi, Zd, Ze, g5]) (by simp -implicitDefEqProofs only [go_sem, zS, ↓reduceIte, Za, Zb, Zc, reduceCtorEq, kont_eq, zU, zV, Zf, Zg, Zh, Zi, Zd, Ze]) (by omega) (by rw [maskF_nat, if_neg (by omega)]) (by simp; omega) OA oA (by omega) fun v' A' O' o' K' => ?_
   simp -implicitDefEqProofs only [go_sem, zS, ↓reduceIte, Za, Zb, Zc, reduceCtorEq, kont_eq, zU, zV, Zf, Zg, Zh, Zi, Zd, Ze]
   exact ⟨v', rfl, by rw [List.map_append]; exact O', o', KA.trans' K' fun q hq h => by omega⟩
 ·rintro g A gi ⟨lv, g5, OA, oA, KA⟩
  simp -implicitDefEqProofs only [go_sem, zS, ↓reduceIte, Za, Zb, Zc, reduceCtorEq, kont_eq, zU, zV, Zf, Zg, Zh, Zi, Zd, Ze] at g5
  simp -implicitDefEqProofs only [go_sem, zS, ↓reduceIte, Za, Zb, Zc, reduceCtorEq, kont_eq, zU, zV, Zf, Zg, Zh, Zi, Zd, Ze, g5]
  rw [hQ]
  have := K02.size
  exact ⟨OA, fun q hq => by have := oA q hq; omega, K02.trans KA⟩
abbrev MV := Int × Option Addr × Nat × Nat
def mvV (x : MV) : Value := .slice x.2.1 x.2.2.1 x.2.2.2
def encV (x : MV) : List Value := [.int .i64 x.1, mvV x]
theorem encV_len (x : MV) : (encV x).length = 2 := rfl
theorem encV_one (x : MV) : ∀ v ∈ encV x, v.oneCell' = true := by
 intro v hv; simp [encV, mvV] at hv; rcases hv with rfl | rfl <;> rfl
structure MosR (H : Hp) (ms : List MV) (mo : List MoN) : Prop where
 len : ms.length = mo.length
 at_ : ∀ i (h : i < ms.length) (h' : i < mo.length), ms[i].1 = mo[i].1 /\ SetM H (.agg #[mvV ms[i]]) (bt mo[i].2)
theorem MosR.keep {W : Nat -> Prop} {H H' : Hp} {ms : List MV} {mo : List MoN} (h : MosR H ms mo) (hk : Keep W H H') (hw : ∀ x ∈ ms, ∀ q, slB (mvV x) q -> ¬ W q) : MosR H' ms mo :=
 ⟨h.len, fun i h1 h2 => ⟨(h.at_ i h1 h2).1, (h.at_ i h1 h2).2.keep hk fun q hq => hw _ (List.getElem_mem h1) q hq⟩⟩
theorem MosR.keep0 {H H' : Hp} {ms : List MV} {mo : List MoN} (h : MosR H ms mo) (hk : Keep (fun _ => False) H H') : MosR H' ms mo := h.keep hk fun _ _ _ _ h => h
theorem MosR.snoc {H : Hp} {ms : List MV} {mo : List MoN} (h : MosR H ms mo) {x : MV} {y : MoN} (h1 : x.1 = y.1) (h2 : SetM H (.agg #[mvV x]) (bt y.2)) : MosR H (ms ++ [x]) (mo ++ [y]) := by
 refine ⟨by simp [h.len], fun i hi hi' => ?_⟩
 by_cases e : i < ms.length
 ·rw [List.getElem_append_left e, List.getElem_append_left (by rw [<- h.len]; exact e)]; exact h.at_ i e (by rw [<- h.len]; exact e)
 ·have hi2 : i = ms.length := by simp at hi; omega
  subst hi2
  have e1 : (ms ++ [x])[ms.length] = x := by simp
  have e2 : (mo ++ [y])[ms.length]'hi' = y := by
   have := h.len
   simp [this]
  rw [e1, e2]; exact ⟨h1, h2⟩
def ProFl (H : Hp) (v : Value) (f : FlN) : Prop := ∃ s b d a m ms, v = .agg #[s, b, d, a, m] /\ SlE encS 2 H s f.st /\ SlP H b f.be /\ SlP H d f.di /\ SlP H a f.sa /\ SlE encV 2 H m ms /\ MosR H ms f.mo
theorem ProFl.keep0 {H H' : Hp} {v : Value} {f : FlN} (h : ProFl H v f) (hk : Keep (fun _ => False) H H') : ProFl H' v f := by
 obtain ⟨s, b, d, a, m, ms, rfl, h1, h2, h3, h4, h5, h6⟩ := h
 exact ⟨s, b, d, a, m, ms, rfl, h1.keep0 hk, h2.keep0 hk, h3.keep0 hk, h4.keep0 hk, h5.keep0 hk, h6.keep0 hk⟩
def ProOw (C : Nat) (H : Hp) (v : Value) (f : FlN) : Prop := ∃ s b d a m ms, v = .agg #[s, b, d, a, m] /\ OwE encS 2 H s f.st /\ OwP H b f.be /\ OwP H d f.di /\ OwP H a f.sa /\ OwE encV 2 H m ms /\ MosR H ms f.mo ∧
 (∀ c ∈ [s, b, d, a, m], ∀ q, ownB c q -> C <= q) /\ (∀ x ∈ ms, ∀ q, slB (mvV x) q -> C <= q) /\ (∀ c ∈ [b, d, a, m], ∀ q, ownB c q -> ¬ ownB s q) /\ ∀ x ∈ ms, ∀ q, slB (mvV x) q -> ¬ ownB s q
theorem ProOw.fl {C : Nat} {H : Hp} {v : Value} {f : FlN} (h : ProOw C H v f) : ProFl H v f := by
 obtain ⟨s, b, d, a, m, ms, rfl, h1, h2, h3, h4, h5, h6, _⟩ := h
 exact ⟨s, b, d, a, m, ms, rfl, h1.sl, h2.sl, h3.sl, h4.sl, h5.sl, h6⟩
theorem ProOw.keep0 {C : Nat} {H H' : Hp} {v : Value} {f : FlN} (h : ProOw C H v f) (hk : Keep (fun _ => False) H H') : ProOw C H' v f := by
 obtain ⟨s, b, d, a, m, ms, rfl, h1, h2, h3, h4, h5, h6, h7⟩ := h
 exact ⟨s, b, d, a, m, ms, rfl, h1.keep hk (by simp), h2.keep hk (by simp), h3.keep hk (by simp), h4.keep hk (by simp), h5.keep hk (by simp), h6.keep0 hk, h7⟩
theorem SetV.shape {H : Hp} {v : Value} {W : List UInt64} {p : Nat -> Bool} (h : SetV H v W p) : ∃ a n c, v = .slice a n c := by
 obtain ⟨a, c, rfl, _⟩ := h.sl.mk; exact ⟨_, _, _, rfl⟩
theorem flwM_ok {P : Program} {ι : Ids} (hr : RolesSpec P (ι.f 283)) {f : Fr} {A : Hp} {b bp C : Nat} {y : MoN} {ms : List MV} {mo : List MoN} {Qb : Ex -> Fr -> Hp -> Prop} (h3 : f 3 = .pointer (some ⟨b, 0, none⟩)) (h7 : f 7 = .pointer (some ⟨bp, 0, none⟩)) (hL : ms.length <= 1000)
  (Bp : Bl A bp (encM y)) {y0 y1 y2 y3 y4 : Value} (B : Bl A b [y0, y1, y2, y3, y4]) (hb : b < C) (hbp : C <= bp) (hC : C <= A.size) (O : OwE encV 2 A y4 ms) (o : ∀ q, ownB y4 q -> C <= q) (hbo : ¬ ownB y4 bp) (M : MosR A ms mo) (om : ∀ x ∈ ms, ∀ q, slB (mvV x) q -> C <= q /\ ¬ ownB y4 q)
  (hK : ∀ v' A' ms', OwE encV 2 A' v' ms' -> ms'.length = ms.length + 1 -> MosR A' ms' (mo ++ [y]) -> (∀ q, ownB v' q -> C <= q) -> (∀ x ∈ ms', ∀ q, slB (mvV x) q -> C <= q /\ ¬ ownB v' q) -> Bl A' b [y0, y1, y2, y3, v'] -> Keep (fun q => q = b \/ C <= q) A A' -> Qb .n f A') : vc P (c_flwM ι) Qb f A := by
 have hsz : ∀ {X : Hp} {x : MV} {p : Nat -> Bool}, SetM X (.agg #[mvV x]) p -> ∀ q, slB (mvV x) q -> q < X.size := fun h q hq => h.old (k := q) hq
 unfold c_flwM
 refine vc_drk (fun q => q = b \/ ownB y4 q) ?_
 have c0 : ∀ {A' : Hp}, Keep (fun _ => False) A A' -> cell A' ⟨b, 4, none⟩ = some y4 := fun K => by rw [(K.bl B (by simp)).cell]; rfl
 have p0 : cell A ⟨bp, 0, none⟩ = some (.int .i64 y.1) := by rw [Bp.cell]; rfl
 have p1 : cell A ⟨bp, 1, none⟩ = some (.int .u64 y.2.toNat) := by rw [Bp.cell]; rfl
 have hlt : bp < A.size := Bp.lt
 have hobp : ¬ (bp = b \/ ownB y4 bp) := by rintro (h | h); omega; exact hbo h
 have weak : ∀ {X Y : Hp}, Keep (fun _ => False) X Y -> Keep (fun q => q = b \/ ownB y4 q) X Y := fun K => K.any
 have fin : ∀ (A1 A2 : Hp) (bb : Nat) (e : Env) (x : MV), Keep (fun _ => False) A A1 -> Keep (fun _ => False) A1 A2 -> x.1 = y.1 -> SetM A1 (.agg #[mvV x]) (bt y.2) -> (∀ q, slB (mvV x) q -> A.size <= q) -> Bl A2 bb (encV x) -> AppC false (ι.t 298) 2 32 #[.int .i64 0, .slice none 0 0] y4 (.slice (some ⟨bb, 0, none⟩) 1 1) A2 (kontK P (fun q => q = b \/ ownB y4 q) A2 (.t 54) (.px (.t 55) none (.fa 4 (.v 3)) (.wcons .no none (.st (.t 55) (.t 54)) .done .wnil)) e f (Qb .n)) := fun A1 A2 bb e x K1 K2 hx1 hx2 hx3 B2 => by
  have KK := K1.trans K2
  refine app_fieldX (.inl rfl) (fun q hq => .inr hq) encV_len encV_one (O.keep KK (by simp)) o (by have := KK.size; omega) (SlE.bl B2 (l := [x]) rfl (by simp [encV]) (by simp)) rfl (by omega) (by simp; omega) (KK.bl B (by simp)) hb (by simp) h3 rfl fun v' A' O' o' B' K' => ?_
  have s1 := K1.size
  have s2 := K2.size
  have hyo : ∀ q, ownB y4 q -> q < A.size := fun q hq => O.old hq
  have hblt : b < A.size := B.lt
  have hxs : ∀ q, slB (mvV x) q -> q < A2.size := fun q hq => by have := hsz hx2 q hq; omega
  have hms : ∀ z ∈ ms, ∀ q, slB (mvV z) q -> q < A2.size := fun z hz q hq => by
   obtain ⟨i, hi, rfl⟩ := List.getElem_of_mem hz
   have := hsz (M.at_ i hi (by rw [<- M.len]; exact hi)).2 q hq
   omega
  refine hK v' A' (ms ++ [x]) O' (by simp) ?_ (fun q hq => ?_) (fun z hz q hq => ?_) B' ((KK.any).trans (K'.mono fun q _ h => ?_))
  ·refine MosR.snoc ((M.keep0 KK).keep K' fun z hz q hq h => ?_) hx1 ((hx2.keep0 K2).keep K' fun q hq h => ?_)
   ·rcases h with h | h
    ·have := (om z hz q hq).1; omega
    ·exact (om z hz q hq).2 h
   ·have := hx3 q hq
    rcases h with h | h
    ·omega
    ·have := hyo q h; omega
  ·rcases o' q hq with h | h
   ·exact o q h
   ·omega
  ·rcases List.mem_append.1 hz with hz | hz
   ·refine ⟨(om z hz q hq).1, fun h => ?_⟩
    rcases o' q h with h | h
    ·exact (om z hz q hq).2 h
    ·have := hms z hz q hq; omega
   ·simp only [List.mem_singleton] at hz
    subst hz
    have := hx3 q hq
    refine ⟨by omega, fun h => ?_⟩
    rcases o' q h with h | h
    ·have := hyo q h; omega
    ·have := hxs q hq; omega
  ·rcases h with h | h
   ·exact .inl h
   ·exact .inr (o q h)
 have key : ∀ (A1 : Hp) (v : Value) (W : List UInt64), SetV A1 v W (bt y.2) -> (∀ q, slB v q -> A.size <= q) -> Keep (fun _ => False) A A1 -> ∃ x : MV, v = mvV x /\ x.1 = y.1 /\ SetM A1 (.agg #[mvV x]) (bt y.2) /\ ∀ q, slB (mvV x) q -> A.size <= q := fun A1 v W hV hf K => by
  obtain ⟨a, n, c, rfl⟩ := hV.shape
  exact ⟨(y.1, a, n, c), rfl, rfl, ⟨_, W, rfl, hV⟩, hf⟩
 simp -implicitDefEqProofs only [go_sem, zS, ↓reduceIte, Za, Zb, Zc, reduceCtorEq, kont_eq, zU, zV, Zf, Zg, Zh, Zi, Zd, Ze, zF, h3, h7, c0 (Keep.refl _ A), p0, p1]
 refine ⟨hobp, hobp, ⟨Keep.refl _ _, (hr y.2 A).mono ?_⟩, (hr y.2 A).mono ?_⟩
 ·rintro rv A1 ⟨⟨v, W, rfl, hV⟩, rf, K1⟩
  obtain ⟨x, rfl, hx1, hx2, hx3⟩ := key A1 v W hV rf K1
  have hmv : mvV x = .slice x.2.1 x.2.2.1 x.2.2.2 := rfl
  rw [hmv]
  simp -implicitDefEqProofs only [go_sem, zS, ↓reduceIte, Za, Zb, Zc, reduceCtorEq, kont_eq, zU, zV, Zf, Zg, Zh, Zi, Zd, Ze, zF]
  refine ⟨weak K1, ?_⟩
  generalize hA2 : A1.push _ = A2
  have B2 : Bl A2 A1.size (encV x) := by rw [<- hA2, encV, hx1]; exact Bl.new' _ _ _
  have K2 : Keep (fun _ => False) A1 A2 := by rw [<- hA2]; exact (Keep.refl _ _).push _
  exact ⟨weak K2, fin A1 A2 _ _ x K1 K2 hx1 hx2 hx3 B2⟩
 ·rintro rv A1 ⟨⟨v, W, rfl, hV⟩, rf, K1⟩
  obtain ⟨x, rfl, hx1, hx2, hx3⟩ := key A1 v W hV rf K1
  have hmv : mvV x = .slice x.2.1 x.2.2.1 x.2.2.2 := rfl
  rw [hmv]
  simp -implicitDefEqProofs only [go_sem, zS, ↓reduceIte, Za, Zb, Zc, reduceCtorEq, kont_eq, zU, zV, Zf, Zg, Zh, Zi, Zd, Ze, zF, h3, c0 K1]
  refine ⟨weak K1, ?_⟩
  generalize hA2 : A1.push _ = A2
  have B2 : Bl A2 A1.size (encV x) := by rw [<- hA2, encV, hx1]; exact Bl.new' _ _ _
  have K2 : Keep (fun _ => False) A1 A2 := by rw [<- hA2]; exact (Keep.refl _ _).push _
  simp -implicitDefEqProofs only [go_sem, zS, ↓reduceIte, Za, Zb, Zc, reduceCtorEq, kont_eq, zU, zV, Zf, Zg, Zh, Zi, Zd, Ze, c0 (K1.trans K2)]
  exact ⟨⟨Keep.refl _ _, weak K2, fin A1 A2 _ _ x K1 K2 hx1 hx2 hx3 B2⟩, weak K2, Keep.refl _ _, fin A1 A2 _ _ x K1 K2 hx1 hx2 hx3 B2⟩
theorem flwS_ok {P : Program} {ι : Ids} {f : Fr} {A : Hp} {b bp C : Nat} {x : StN} {L : List StN} {Qb : Ex -> Fr -> Hp -> Prop} (h3 : f 3 = .pointer (some ⟨b, 0, none⟩)) (h5 : f 5 = .pointer (some ⟨bp, 0, none⟩)) (hL : L.length <= 1000)
  (Bp : Bl A bp (encS x)) {y0 y1 y2 y3 y4 : Value} (B : Bl A b [y0, y1, y2, y3, y4]) (hb : b < C) (hC : C <= A.size) (O : OwE encS 2 A y0 L) (o : ∀ q, ownB y0 q -> C <= q)
  (hK : ∀ v' A', OwE encS 2 A' v' (L ++ [x]) -> (∀ q, ownB v' q -> C <= q) -> Bl A' b [v', y1, y2, y3, y4] -> Keep (fun q => q = b \/ C <= q) A A' -> Qb .n f A') : vc P (c_flwS ι) Qb f A := by
 unfold c_flwS
 have c0 : cell A ⟨b, 0, none⟩ = some y0 := by rw [B.cell]; rfl
 have p0 : cell A ⟨bp, 0, none⟩ = some (sV x.1) := by rw [Bp.cell]; rfl
 have p1 : cell A ⟨bp, 1, none⟩ = some (.int .i64 x.2) := by rw [Bp.cell]; rfl
 rw [sV] at p0
 simp -implicitDefEqProofs only [go_sem, zS, ↓reduceIte, Za, Zb, Zc, reduceCtorEq, zU, zV, Zf, Zg, Zh, Zi, Zd, Ze, zF, h3, h5, c0, p0, p1]
 refine kont_news fun A2 b2 e2 z2 B2 K2 => ?_
 have B2' : Bl A2 b2 (encS x) := B2
 simp -implicitDefEqProofs only [go_sem, zS, ↓reduceIte, Za, Zb, Zc, reduceCtorEq, zU, zV, Zf, Zg, Zh, Zi, Zd, Ze, zF]
 exact app_fieldR encS_len encS_one (O.keep K2 (by simp)) o (by omega) (SlE.bl B2' (l := [x]) rfl (by simp [encS]) (by simp)) rfl (by omega) (by simp; omega) (K2.bl B (by simp)) hb (by simp) h3 rfl fun v' A' O' o' B' K' => hK v' A' O' o' B' ((K2.mono fun _ _ h => h.elim).trans K')
theorem flwC_ok {P : Program} {ι : Ids} (hc : ClnSpec pE P (ι.f 204)) {f : Fr} {A : Hp} {b1 b3 : Nat} {s b d a m y0 y1 y2 y3 y4 : Value} {L1 L2 L3 : List PrN} {Qb : Ex -> Fr -> Hp -> Prop} (h1 : f 1 = .pointer (some ⟨b1, 0, none⟩)) (h3 : f 3 = .pointer (some ⟨b3, 0, none⟩)) (hne : b1 ≠ b3)
  (B1 : Bl A b1 [s, b, d, a, m]) (B : Bl A b3 [y0, y1, y2, y3, y4]) (hb : SlP A b L1) (hd : SlP A d L2) (ha : SlP A a L3) (l1 : L1.length <= 1000) (l2 : L2.length <= 1000) (l3 : L3.length <= 1000)
  (hK : ∀ bv dv av A', OwP A' bv L1 -> OwP A' dv L2 -> OwP A' av L3 -> (∀ q, ownB bv q -> A.size <= q) -> (∀ q, ownB dv q -> A.size <= q) -> (∀ q, ownB av q -> A.size <= q) -> Bl A' b3 [y0, bv, dv, av, y4] -> Keep (fun q => q = b3) A A' -> Qb .n f A') : vc P (c_flwC ι) Qb f A := by
 unfold c_flwC
 refine vc_drk (fun q => q = b3) ?_
 have c1 : cell A ⟨b1, 1, none⟩ = some b := by rw [B1.cell]; rfl
 have c2 : cell A ⟨b1, 2, none⟩ = some d := by rw [B1.cell]; rfl
 have c3 : cell A ⟨b1, 3, none⟩ = some a := by rw [B1.cell]; rfl
 simp -implicitDefEqProofs only [go_sem, zS, ↓reduceIte, Za, Zb, Zc, reduceCtorEq, kont_eq, zU, zV, Zf, Zg, Zh, Zi, Zd, Ze, zF, h1, c1, c2, c3]
 refine ⟨hne, hne, hne, (hc L1 b A hb (by omega)).mono ?_⟩
 rintro bv A1 ⟨O1, o1, K1⟩
 simp -implicitDefEqProofs only [go_sem, zS, ↓reduceIte, Za, Zb, Zc, reduceCtorEq, kont_eq, zU, zV, Zf, Zg, Zh, Zi, Zd, Ze, zF, h3]
 refine ⟨K1.any, (hc L2 d A1 (hd.keep0 K1) (by omega)).mono ?_⟩
 rintro dv A2 ⟨O2, o2, K2⟩
 simp -implicitDefEqProofs only [go_sem, zS, ↓reduceIte, Za, Zb, Zc, reduceCtorEq, kont_eq, zU, zV, Zf, Zg, Zh, Zi, Zd, Ze, zF]
 have K12 := K1.trans K2
 refine ⟨K2.any, (hc L3 a A2 (ha.keep0 K12) (by omega)).mono ?_⟩
 rintro av A3 ⟨O3, o3, K3⟩
 have K03 := K12.trans K3
 have s1 := K1.size
 have s2 := K2.size
 have hb3 : b3 < A.size := B.lt
 have B3 := K03.bl B (by simp)
 have B4 := B3.setc 1 bv
 have B5 := B4.setc 2 dv
 have B6 := B5.setc 3 av
 have k4 : Keep (fun q => q = b3) A3 (setc A3 ⟨b3, 1, none⟩ bv) := (Keep.refl _ _).setc _ (.inl rfl)
 have k5 : Keep (fun q => q = b3) (setc A3 ⟨b3, 1, none⟩ bv) (setc (setc A3 ⟨b3, 1, none⟩ bv) ⟨b3, 2, none⟩ dv) := (Keep.refl _ _).setc _ (.inl rfl)
 have k6 : Keep (fun q => q = b3) (setc (setc A3 ⟨b3, 1, none⟩ bv) ⟨b3, 2, none⟩ dv) (setc (setc (setc A3 ⟨b3, 1, none⟩ bv) ⟨b3, 2, none⟩ dv) ⟨b3, 3, none⟩ av) := (Keep.refl _ _).setc _ (.inl rfl)
 have t4 := B3.okSt (o := 1) (by simp)
 have t5 := B4.okSt (o := 2) (by simp)
 have t6 := B5.okSt (o := 3) (by simp)
 have q1 := all1_sl (O1.sl.isSl)
 have q2 := all1_sl (O2.sl.isSl)
 have q3 := all1_sl (O3.sl.isSl)
 simp -implicitDefEqProofs only [go_sem, zS, ↓reduceIte, Za, Zb, Zc, reduceCtorEq, kont_eq, zU, zV, Zf, Zg, Zh, Zi, Zd, Ze, zF, h3, t4, t5, t6, q1, q2, q3]
 have k46 := (k4.trans k5).trans k6
 exact ⟨K3.any, q1, k4, q2, k5, q3, k6, hK bv dv av _ ((O1.keep (K2.trans K3) (by simp)).keep k46 fun q hq e => by have := o1 q hq; omega) ((O2.keep K3 (by simp)).keep k46 fun q hq e => by have := o2 q hq; omega) (O3.keep k46 fun q hq e => by have := o3 q hq; omega) o1 (fun q hq => by have := o2 q hq; omega) (fun q hq => by have := o3 q hq; omega) B6 (K03.any.trans k46)⟩
structure SmallF (f : FlN) : Prop where
 st : f.st.length <= 1000
 be : f.be.length <= 1000
 di : f.di.length <= 1000
 sa : f.sa.length <= 1000
 mo : f.mo.length <= 1000
def LFlowSpec (P : Program) (k : FuncId) : Prop := ∀ (f : FlN) (w : Value) (H : Hp), RefFl H w f -> SmallF f -> CallsM P k #[w] H fun r H' => ProOw H.size H' r f /\ Keep (fun _ => False) H H'
theorem lflow_ok {P : Program} {ι : Ids} {k : FuncId} (hk : FnIs P k (c_lflow ι) r_lflow 1) (hc : ClnSpec pE P (ι.f 204)) (hr : RolesSpec P (ι.f 283)) : LFlowSpec P k := by
 intro f w H hw hsm
 obtain ⟨s, b, d, a, m, rfl, h1, h2, h3, h4, h5⟩ := hw
 obtain ⟨Q, hQ⟩ : ∃ Q : Value -> Hp -> Prop, Q = fun r H' => ProOw H.size H' r f /\ Keep (fun _ => False) H H' := ⟨_, rfl⟩
 rw [<- hQ]
 refine calls_of_vc hk (args := [_]) (by simp) ?_
 unfold c_lflow r_lflow
 simp -implicitDefEqProofs only [go_sem, zS, ↓reduceIte, Za, Zb, Zc, reduceCtorEq, zU, zV, Zf, Zg, Zh, Zi, Zd, Ze, zF]
 refine kont_new fun H1 b1 e1 z1 B1 K1 => ?_
 have B1' : Bl H1 b1 [s, b, d, a, m] := B1
 simp -implicitDefEqProofs only [go_sem, zS, ↓reduceIte, Za, Zb, Zc, reduceCtorEq, zU, zV, Zf, Zg, Zh, Zi, Zd, Ze, zF]
 refine kont_new fun H2 b2 e2 z2 B2 K2 => ?_
 have B12 := K2.bl B1' (by simp)
 simp -implicitDefEqProofs only [go_sem, zS, ↓reduceIte, Za, Zb, Zc, reduceCtorEq, zU, zV, Zf, Zg, Zh, Zi, Zd, Ze, zF]
 refine kont_new fun H3 b3 e3 z3 B3 K3 => ?_
 have B13 := K3.bl B12 (by simp)
 have B23 := K3.bl B2 (by simp)
 have B3' : Bl H3 b3 [.slice none 0 0, .slice none 0 0, .slice none 0 0, .slice none 0 0, .slice none 0 0] := B3
 have K03 := (K1.trans K2).trans K3
 have hb1 : b1 < b2 := by have := B1'.lt; omega
 have hb2 : b2 < b3 := by have := B2.lt; omega
 obtain ⟨C, hC⟩ : ∃ C, C = H3.size := ⟨_, rfl⟩
 have hCH : H.size <= b1 := by omega
 have hb3 : b3 < C := by have := B3'.lt; omega
 have W0 : ∀ {X : Hp}, Keep (fun q => q = b3 \/ C <= q) H3 X -> Bl X b1 [s, b, d, a, m] := fun K => K.bl B13 (by omega)
 have c0 : cell H3 ⟨b1, 0, none⟩ = some s := by rw [B13.cell]; rfl
 simp -implicitDefEqProofs only [go_sem, zS, ↓reduceIte, Za, Zb, Zc, reduceCtorEq, kont_eq, zU, zV, Zf, Zg, Zh, Zi, Zd, Ze, zF, c0, h1.isSl, h1.len]
 refine vc_range f.st.length [12, 5, 11] rfl rfl (by have := hsm.st; omega) (by simp -implicitDefEqProofs only [go_sem, zS, ↓reduceIte, Za, Zb, Zc, reduceCtorEq, kont_eq, zU, zV, Zf, Zg, Zh, Zi, Zd, Ze]) (by simp -implicitDefEqProofs only [go_sem, zS, ↓reduceIte, Za, Zb, Zc, reduceCtorEq, kont_eq, zU, zV, Zf, Zg, Zh, Zi, Zd, Ze]) (fun i g A => ∃ sv, Bl A b3 [sv, .slice none 0 0, .slice none 0 0, .slice none 0 0, .slice none 0 0] /\ OwE encS 2 A sv (f.st.take i) /\ (∀ q, ownB sv q -> C <= q) /\ Keep (fun q => q = b3 \/ C <= q) H3 A) ⟨_, B3', OwE.nil _, fun q h => h.elim, Keep.refl _ _⟩ ?_ ?_
 ·rintro i g A hi gi gn ⟨sv, BA, OA, oA, KA⟩
  simp -implicitDefEqProofs only [go_sem, zS, ↓reduceIte, Za, Zb, Zc, reduceCtorEq, kont_eq, zU, zV, Zf, Zg, Zh, Zi, Zd, Ze] at gi gn
  have sA := KA.size
  have hA := (h1.keep0 K03).keep KA fun q hq h => by have := h1.old hq; omega
  obtain ⟨pb, po, pc, hwe, hpb, hld⟩ := hA.elem encS_len hi
  obtain ⟨x, hx⟩ : ∃ x, x = f.st[i] := ⟨_, rfl⟩
  rw [<- hx] at hld
  have hld' : ldNA A ⟨pb, po + i * 2, none⟩ 2 = some #[sV x.1, .int .i64 x.2] := hld
  simp -implicitDefEqProofs only [go_sem, zS, ↓reduceIte, Za, Zb, Zc, reduceCtorEq, zU, zV, Zf, Zg, Zh, Zi, Zd, Ze, zF, gi, hwe, tn_cast, ldNO_ptr, hld']
  refine ⟨by omega, ?_⟩
  refine kont_newst [sV x.1, .int .i64 x.2] (by simp -implicitDefEqProofs only [go_sem, zS, ↓reduceIte, Za, Zb, Zc, reduceCtorEq, kont_eq, zU, zV, Zf, Zg, Zh, Zi, Zd, Ze]) rfl rfl rfl fun A1 bp eb zb BP KP => ?_
  simp -implicitDefEqProofs only [go_sem, zS, ↓reduceIte, Za, Zb, Zc, reduceCtorEq, kont_eq, zU, zV, Zf, Zg, Zh, Zi, Zd, Ze]
  refine flwS_ok (x := x) (C := C) (by simp -implicitDefEqProofs only [go_sem, zS, ↓reduceIte, Za, Zb, Zc, reduceCtorEq, kont_eq, zU, zV, Zf, Zg, Zh, Zi, Zd, Ze]) (by simp -implicitDefEqProofs only [go_sem, zS, ↓reduceIte, Za, Zb, Zc, reduceCtorEq, kont_eq, zU, zV, Zf, Zg, Zh, Zi, Zd, Ze]) (by have := hsm.st; rw [List.length_take]; omega) BP (KP.bl BA (by simp)) (by omega) (by omega) (OA.keep KP (by simp)) oA fun v' A' O' o' B' K' => ?_
  simp -implicitDefEqProofs only [go_sem, zS, ↓reduceIte, Za, Zb, Zc, reduceCtorEq, kont_eq, zU, zV, Zf, Zg, Zh, Zi, Zd, Ze]
  exact ⟨v', B', by rw [take_snoc' hi, <- hx]; exact O', o', (KA.trans KP.any).trans K'⟩
 ·rintro g A gi ⟨sv, BA, OA, oA, KA⟩
  rw [List.take_length] at OA
  have sA := KA.size
  have W1 := W0 KA
  have c1 : cell A ⟨b1, 1, none⟩ = some b := by rw [W1.cell]; rfl
  have c2 : cell A ⟨b1, 2, none⟩ = some d := by rw [W1.cell]; rfl
  have c3 : cell A ⟨b1, 3, none⟩ = some a := by rw [W1.cell]; rfl
  have up : ∀ {v : Value} {l : List PrN}, SlP H v l -> SlP A v l := fun h => (h.keep0 K03).keep KA fun q hq hw => by have := h.old hq; omega
  obtain ⟨C1, hC1⟩ : ∃ C1, C1 = A.size := ⟨_, rfl⟩
  have oS : ∀ q, ownB sv q -> C <= q /\ q < C1 := fun q hq => ⟨oA q hq, by have := OA.old hq; omega⟩
  simp -implicitDefEqProofs only [go_sem, zS, ↓reduceIte, Za, Zb, Zc, reduceCtorEq, kont_eq, zU, zV, Zf, Zg, Zh, Zi, Zd, Ze]
  refine flwC_ok (b1 := b1) (b3 := b3) hc (by simp -implicitDefEqProofs only [go_sem, zS, ↓reduceIte, Za, Zb, Zc, reduceCtorEq, kont_eq, zU, zV, Zf, Zg, Zh, Zi, Zd, Ze]) (by simp -implicitDefEqProofs only [go_sem, zS, ↓reduceIte, Za, Zb, Zc, reduceCtorEq, kont_eq, zU, zV, Zf, Zg, Zh, Zi, Zd, Ze]) (by omega) W1 BA (up h2) (up h3) (up h4) hsm.be hsm.di hsm.sa fun bv dv av X OB OD OA2 ob od oa BX KX => ?_
  have sX := KX.size
  have OSX := OA.keep KX fun q hq e => by have := oS q hq; omega
  have K3X : Keep (fun q => q = b3 \/ C <= q) H3 X := KA.trans (KX.mono fun q _ e => .inl e)
  have W2 := W0 K3X
  have c4 : cell X ⟨b1, 4, none⟩ = some m := by rw [W2.cell]; rfl
  obtain ⟨C2, hC2⟩ : ∃ C2, C2 = X.size := ⟨_, rfl⟩
  have oB : ∀ q, ownB bv q -> C1 <= q /\ q < C2 := fun q hq => ⟨by have := ob q hq; omega, by have := OB.old hq; omega⟩
  have oD : ∀ q, ownB dv q -> C1 <= q /\ q < C2 := fun q hq => ⟨by have := od q hq; omega, by have := OD.old hq; omega⟩
  have oA2 : ∀ q, ownB av q -> C1 <= q /\ q < C2 := fun q hq => ⟨by have := oa q hq; omega, by have := OA2.old hq; omega⟩
  simp -implicitDefEqProofs only [go_sem, zS, ↓reduceIte, Za, Zb, Zc, reduceCtorEq, kont_eq, zU, zV, Zf, Zg, Zh, Zi, Zd, Ze, zF, c4, h5.isSl, h5.len]
  refine vc_range f.mo.length [42, 7, 41] rfl rfl (by have := hsm.mo; omega) (by simp -implicitDefEqProofs only [go_sem, zS, ↓reduceIte, Za, Zb, Zc, reduceCtorEq, kont_eq, zU, zV, Zf, Zg, Zh, Zi, Zd, Ze]) (by simp -implicitDefEqProofs only [go_sem, zS, ↓reduceIte, Za, Zb, Zc, reduceCtorEq, kont_eq, zU, zV, Zf, Zg, Zh, Zi, Zd, Ze]) (fun i g T => ∃ mv ms, Bl T b3 [sv, bv, dv, av, mv] /\ OwE encV 2 T mv ms /\ MosR T ms (f.mo.take i) /\ (∀ q, ownB mv q -> C2 <= q) /\ (∀ x ∈ ms, ∀ q, slB (mvV x) q -> C2 <= q /\ ¬ ownB mv q) /\ Keep (fun q => q = b3 \/ C2 <= q) X T) ⟨_, [], BX, OwE.nil _, ⟨by simp, fun i h => by simp at h⟩, fun q h => h.elim, fun x h => by simp at h, Keep.refl _ _⟩ ?_ ?_
  ·rintro i g2 T hi gi gn ⟨mv, ms, BT, OT, MT, oT, omT, KT⟩
   simp -implicitDefEqProofs only [go_sem, zS, ↓reduceIte, Za, Zb, Zc, reduceCtorEq, kont_eq, zU, zV, Zf, Zg, Zh, Zi, Zd, Ze] at gi gn
   have sT := KT.size
   have K3T : Keep (fun q => q = b3 \/ C <= q) H3 T := K3X.trans (KT.mono fun q _ h => by omega)
   have hT := (h5.keep0 K03).keep K3T fun q hq h => by have := h5.old hq; omega
   obtain ⟨pb, po, pc, hwe, hpb, hld⟩ := hT.elem encM_len hi
   obtain ⟨x, hx⟩ : ∃ x, x = f.mo[i] := ⟨_, rfl⟩
   rw [<- hx] at hld
   have hld' : ldNA T ⟨pb, po + i * 2, none⟩ 2 = some #[.int .i64 x.1, .int .u64 x.2.toNat] := hld
   simp -implicitDefEqProofs only [go_sem, zS, ↓reduceIte, Za, Zb, Zc, reduceCtorEq, zU, zV, Zf, Zg, Zh, Zi, Zd, Ze, zF, gi, hwe, tn_cast, ldNO_ptr, hld']
   refine ⟨by omega, ?_⟩
   refine kont_newst [.int .i64 x.1, .int .u64 x.2.toNat] (by simp -implicitDefEqProofs only [go_sem, zS, ↓reduceIte, Za, Zb, Zc, reduceCtorEq, kont_eq, zU, zV, Zf, Zg, Zh, Zi, Zd, Ze]) rfl rfl rfl fun T1 bp eb zb BP KP => ?_
   simp -implicitDefEqProofs only [go_sem, zS, ↓reduceIte, Za, Zb, Zc, reduceCtorEq, kont_eq, zU, zV, Zf, Zg, Zh, Zi, Zd, Ze]
   have hml : ms.length = i := by rw [MT.len, List.length_take]; omega
   refine flwM_ok (y := x) (C := C2) hr (by simp -implicitDefEqProofs only [go_sem, zS, ↓reduceIte, Za, Zb, Zc, reduceCtorEq, kont_eq, zU, zV, Zf, Zg, Zh, Zi, Zd, Ze]) (by simp -implicitDefEqProofs only [go_sem, zS, ↓reduceIte, Za, Zb, Zc, reduceCtorEq, kont_eq, zU, zV, Zf, Zg, Zh, Zi, Zd, Ze]) (by have := hsm.mo; omega) BP (KP.bl BT (by simp)) (by omega) (by omega) (by omega) (OT.keep KP (by simp)) oT (fun h => by have := OT.old h; omega) (MT.keep0 KP) omT fun v' A' ms' O' hl' M' o' om' B' K' => ?_
   simp -implicitDefEqProofs only [go_sem, zS, ↓reduceIte, Za, Zb, Zc, reduceCtorEq, kont_eq, zU, zV, Zf, Zg, Zh, Zi, Zd, Ze]
   exact ⟨v', ms', B', O', by rw [take_snoc' hi, <- hx]; exact M', o', om', (KT.trans KP.any).trans K'⟩
  ·rintro g2 T gi ⟨mv, ms, BT, OT, MT, oT, omT, KT⟩
   rw [List.take_length] at MT
   have sT := KT.size
   have K3T : Keep (fun q => q = b3 \/ C <= q) H3 T := K3X.trans (KT.mono fun q _ h => by omega)
   have OST := OSX.keep KT fun q hq h => by have := oS q hq; omega
   have OBT := OB.keep KT fun q hq h => by have := oB q hq; omega
   have ODT := OD.keep KT fun q hq h => by have := oD q hq; omega
   have OAT := OA2.keep KT fun q hq h => by have := oA2 q hq; omega
   have B2T := K3T.bl B23 (by omega)
   simp -implicitDefEqProofs only [go_sem, zS, ↓reduceIte, Za, Zb, Zc, reduceCtorEq, kont_eq, zU, zV, Zf, Zg, Zh, Zi, Zd, Ze, zF, BT.ldNO 5 rfl]
   have one : ([sv, bv, dv, av, mv].all fun v => v.oneCell') = true := by
    obtain ⟨_, _, _, rfl⟩ := OST.shape
    obtain ⟨_, _, _, rfl⟩ := OBT.shape
    obtain ⟨_, _, _, rfl⟩ := ODT.shape
    obtain ⟨_, _, _, rfl⟩ := OAT.shape
    obtain ⟨_, _, _, rfl⟩ := OT.shape
    rfl
   refine retN (n := 5) (cs := [sv, bv, dv, av, mv]) B2T rfl rfl one fun HZ zz BZ2 KZ2 => ?_
   rw [hQ]
   have K0T : Keep (fun _ => False) H T := K03.trans' K3T fun q hq h => by omega
   refine ⟨⟨sv, bv, dv, av, mv, ms, rfl, OST.keep KZ2 fun q hq e => ?_, OBT.keep KZ2 fun q hq e => ?_, ODT.keep KZ2 fun q hq e => ?_, OAT.keep KZ2 fun q hq e => ?_, OT.keep KZ2 fun q hq e => ?_, MT.keep KZ2 fun x hx q hq e => ?_, ?_, ?_, ?_, ?_⟩, K0T.trans' KZ2 fun q hq e => by omega⟩
   ·have := oS q hq; omega
   ·have := oB q hq; omega
   ·have := oD q hq; omega
   ·have := oA2 q hq; omega
   ·have := oT q hq; omega
   ·have := (omT x hx q hq).1; omega
   ·intro c hc q hq
    simp only [List.mem_cons, List.not_mem_nil, or_false] at hc
    rcases hc with rfl | rfl | rfl | rfl | rfl
    ·have := oS q hq; omega
    ·have := oB q hq; omega
    ·have := oD q hq; omega
    ·have := oA2 q hq; omega
    ·have := oT q hq; omega
   ·intro x hx q hq
    have := (omT x hx q hq).1; omega
   ·intro c hc q hq hs
    have := oS q hs
    simp only [List.mem_cons, List.not_mem_nil, or_false] at hc
    rcases hc with rfl | rfl | rfl | rfl
    ·have := oB q hq; omega
    ·have := oD q hq; omega
    ·have := oA2 q hq; omega
    ·have := oT q hq; omega
   ·intro x hx q hq hs
    have := oS q hs
    have := (omT x hx q hq).1; omega
structure SetsR (H : Hp) (vs : List Value) (ms : List UInt64) : Prop where
 len : vs.length = ms.length
 at_ : ∀ i (h : i < vs.length) (h' : i < ms.length), SetM H (.agg #[vs[i]]) (bt ms[i])
theorem SetsR.keep {W : Nat -> Prop} {H H' : Hp} {vs : List Value} {ms : List UInt64} (h : SetsR H vs ms) (hk : Keep W H H') (hw : ∀ x ∈ vs, ∀ q, slB x q -> ¬ W q) : SetsR H' vs ms :=
 ⟨h.len, fun i h1 h2 => (h.at_ i h1 h2).keep hk fun q hq => hw _ (List.getElem_mem h1) q hq⟩
theorem SetsR.keep0 {H H' : Hp} {vs : List Value} {ms : List UInt64} (h : SetsR H vs ms) (hk : Keep (fun _ => False) H H') : SetsR H' vs ms := h.keep hk fun _ _ _ _ h => h
theorem SetsR.snoc {H : Hp} {vs : List Value} {ms : List UInt64} (h : SetsR H vs ms) {x : Value} {y : UInt64} (h2 : SetM H (.agg #[x]) (bt y)) : SetsR H (vs ++ [x]) (ms ++ [y]) := by
 refine ⟨by simp [h.len], fun i hi hi' => ?_⟩
 by_cases e : i < vs.length
 ·rw [List.getElem_append_left e, List.getElem_append_left (by rw [<- h.len]; exact e)]; exact h.at_ i e (by rw [<- h.len]; exact e)
 ·have hi2 : i = vs.length := by simp at hi; omega
  subst hi2
  have e1 : (vs ++ [x])[vs.length] = x := by simp
  have e2 : (ms ++ [y])[vs.length]'hi' = y := by
   have := h.len
   simp [this]
  rw [e1, e2]; exact h2
def SetsO (C : Nat) (H : Hp) (v : Value) (ms : List UInt64) : Prop := ∃ vs, OwS H v vs /\ SetsR H vs ms /\ (∀ q, ownB v q -> C <= q) /\ ∀ x ∈ vs, ∀ q, slB x q -> C <= q /\ ¬ ownB v q
theorem SetsO.keep0 {C : Nat} {H H' : Hp} {v : Value} {ms : List UInt64} (h : SetsO C H v ms) (hk : Keep (fun _ => False) H H') : SetsO C H' v ms := by
 obtain ⟨vs, h1, h2, h3⟩ := h
 exact ⟨vs, h1.keep hk (by simp), h2.keep0 hk, h3⟩
def LMakfSpec (P : Program) (k : FuncId) : Prop := ∀ (r : RawF) (v : Value) (H : Hp), RawFV H v r -> CallsM P k #[v] H fun x H' => ∃ fv lv mv uv, x = .tuple #[fv, lv, mv, uv] /\ ProOw H.size H' fv (mkF r) /\ SetsO H.size H' lv (masksF r) /\ RefFl H' mv (mkF r) /\ SlR H' uv (w64 (masksF r)) /\ Keep (fun _ => False) H H'
def LMakfXSpec (P : Program) (k : FuncId) : Prop := ∀ (r : RawF) (v : Value) (H : Hp), RawFV H v r -> CallsM P k #[v] H fun x H' => ∃ C fv lv mv uv, x = .tuple #[fv, lv, mv, uv] /\ H.size <= C /\ ProOw C H' fv (mkF r) /\ (∀ q, ownB lv q -> q < C) /\ SetsO H.size H' lv (masksF r) /\ RefFl H' mv (mkF r) /\ SlR H' uv (w64 (masksF r)) /\ Keep (fun _ => False) H H'
theorem mkF_small (r : RawF) : SmallF (mkF r) := by
 have h := (mkF_good r).lim
 unfold tooL at h
 exact ⟨by omega, by omega, by omega, by omega, by omega⟩
theorem lmakfX_ok {P : Program} {ι : Ids} {k : FuncId} (hk : FnIs P k (c_lmakf ι) r_lmakf 1) (hm : RMakSpec P (ι.f 292)) (hu : RUsersSpec P (ι.f 295)) (hr : RolesSpec P (ι.f 283)) (hf : LFlowSpec P (ι.f 299)) : LMakfXSpec P k := by
 intro r v H hv
 have hv0 := hv
 obtain ⟨hn, ro, be, di, sa, mo, el, rfl, hro, hbe, hdi, hsa, hmo, hel⟩ := hv
 obtain ⟨Q, hQ⟩ : ∃ Q : Value -> Hp -> Prop, Q = fun x H' => ∃ C fv lv mv uv, x = .tuple #[fv, lv, mv, uv] /\ H.size <= C /\ ProOw C H' fv (mkF r) /\ (∀ q, ownB lv q -> q < C) /\ SetsO H.size H' lv (masksF r) /\ RefFl H' mv (mkF r) /\ SlR H' uv (w64 (masksF r)) /\ Keep (fun _ => False) H H' := ⟨_, rfl⟩
 rw [<- hQ]
 refine calls_of_vc hk (args := [_]) (by simp) ?_
 unfold c_lmakf r_lmakf
 simp -implicitDefEqProofs only [go_sem, zS, ↓reduceIte, Za, Zb, Zc, reduceCtorEq, zU, zV, Zf, Zg, Zh, Zi, Zd, Ze, zF]
 refine kont_new fun H1 b1 e1 z1 B1 K1 => ?_
 have B1' : Bl H1 b1 [.int .u8 (r.n : Int), ro, be, di, sa, mo, el] := B1
 simp -implicitDefEqProofs only [go_sem, zS, ↓reduceIte, Za, Zb, Zc, reduceCtorEq, zU, zV, Zf, Zg, Zh, Zi, Zd, Ze, zF]
 refine kont_new fun H2 b2 e2 z2 B2 K2 => ?_
 have B2' : Bl H2 b2 [.slice none 0 0, .slice none 0 0, .slice none 0 0, .slice none 0 0, .slice none 0 0] := B2
 simp -implicitDefEqProofs only [go_sem, zS, ↓reduceIte, Za, Zb, Zc, reduceCtorEq, zU, zV, Zf, Zg, Zh, Zi, Zd, Ze, zF]
 refine kont_new fun H3 b4 e3 z3 B3 K3 => ?_
 have B3' : Bl H3 b4 [.slice none 0 0, .slice none 0 0, .slice none 0 0, .slice none 0 0, .slice none 0 0] := B3
 have K03 := (K1.trans K2).trans K3
 have K13 := K2.trans K3
 have B13 := K13.bl B1' (by simp)
 have hb1 : b1 < b2 := by have := B1'.lt; omega
 have hb2 : b2 < b4 := by have := B2.lt; omega
 simp -implicitDefEqProofs only [go_sem, zS, ↓reduceIte, Za, Zb, Zc, reduceCtorEq, zU, zV, Zf, Zg, Zh, Zi, Zd, Ze, zF, B13.ldNO 7 rfl]
 refine (hm r _ H3 (hv0.keep0 K03)).mono ?_
 rintro w H4 ⟨hw, fw, K4⟩
 have hw0 := hw
 obtain ⟨ws, wb, wd, wa, wm, rfl, w1, w2, w3, w4, w5⟩ := hw
 have one : ([ws, wb, wd, wa, wm].all fun v => v.oneCell') = true := by
  have q1 := all1_sl w1.isSl
  have q2 := all1_sl w2.isSl
  have q3 := all1_sl w3.isSl
  have q4 := all1_sl w4.isSl
  have q5 := all1_sl w5.isSl
  simp [q1, q2, q3, q4, q5]
 rw [kont_eq]
 simp -implicitDefEqProofs only [go_sem, zS, ↓reduceIte, Za, Zb, Zc, reduceCtorEq, zU, zV, Zf, Zg, Zh, Zi, Zd, Ze, zF]
 refine kont_newst [ws, wb, wd, wa, wm] (by simp -implicitDefEqProofs only [go_sem, zS, ↓reduceIte, Za, Zb, Zc, reduceCtorEq, kont_eq, zU, zV, Zf, Zg, Zh, Zi, Zd, Ze]) rfl rfl one fun H5 b6 e5 z5 B5 K5 => ?_
 have K35 := K4.trans K5
 have K05 := K03.trans K35
 have B15 := K35.bl B13 (by simp)
 simp -implicitDefEqProofs only [go_sem, zS, ↓reduceIte, Za, Zb, Zc, reduceCtorEq, zU, zV, Zf, Zg, Zh, Zi, Zd, Ze, zF, B15.ldNO 7 rfl, B5.ldNO 5 rfl]
 refine (hu r _ _ H5 (hv0.keep0 K05) (hw0.keep0 K5)).mono ?_
 rintro uv H6 ⟨OU, oU, K6⟩
 have K06 := K05.trans K6
 have hn5 := nuF_lt r
 have hml : (w64 (masksF r)).length = nuF r := by rw [w64_len, masksF_len]
 rw [kont_eq]
 simp -implicitDefEqProofs only [go_sem, zS, ↓reduceIte, Za, Zb, Zc, reduceCtorEq, kont_eq, zU, zV, Zf, Zg, Zh, Zi, Zd, Ze, zF, OU.sl.isSl, OU.sl.len, hml]
 refine vc_range (nuF r) [19, 10, 8, 18] rfl rfl (by omega) (by simp -implicitDefEqProofs only [go_sem, zS, ↓reduceIte, Za, Zb, Zc, reduceCtorEq, kont_eq, zU, zV, Zf, Zg, Zh, Zi, Zd, Ze]) (by simp -implicitDefEqProofs only [go_sem, zS, ↓reduceIte, Za, Zb, Zc, reduceCtorEq, kont_eq, zU, zV, Zf, Zg, Zh, Zi, Zd, Ze]) (fun i g A => ∃ lv vs, g 8 = lv /\ OwS A lv vs /\ SetsR A vs ((masksF r).take i) /\ (∀ q, ownB lv q -> H6.size <= q) /\ (∀ x ∈ vs, ∀ q, slB x q -> H6.size <= q /\ ¬ ownB lv q) /\ Keep (fun _ => False) H6 A) ⟨_, [], by simp -implicitDefEqProofs only [go_sem, zS, ↓reduceIte, Za, Zb, Zc, reduceCtorEq, kont_eq, zU, zV, Zf, Zg, Zh, Zi, Zd, Ze], OwS.nil _, ⟨by simp, fun i h => by simp at h⟩, fun q h => h.elim, fun x h => by simp at h, Keep.refl _ _⟩ ?_ ?_
 ·rintro i g A hi gi gn ⟨lv, vs, g8, OA, RA, oA, rA, KA⟩
  simp -implicitDefEqProofs only [go_sem, zS, ↓reduceIte, Za, Zb, Zc, reduceCtorEq, kont_eq, zU, zV, Zf, Zg, Zh, Zi, Zd, Ze] at gi gn g8
  have sA := KA.size
  have uA := OU.sl.keep KA (by simp)
  have hil : i < (masksF r).length := by rw [masksF_len]; exact hi
  obtain ⟨ub, uo, uc, hue, huc, hcell⟩ := uA.cells (by intro e; rw [e] at hml; simp at hml; omega)
  have hci := hcell i (by rw [hml]; exact hi)
  rw [w64_get _ _ hil] at hci
  rw [hml] at hue
  have hvl : vs.length = i := by rw [RA.len, List.length_take]; omega
  obtain ⟨x, hx⟩ : ∃ x, x = (masksF r)[i] := ⟨_, rfl⟩
  have hxd : (masksF r).getD i 0 = x := by rw [List.getD_eq_getElem?_getD, List.getElem?_eq_getElem hil, hx]; rfl
  rw [hxd] at hci
  simp -implicitDefEqProofs only [go_sem, zS, ↓reduceIte, Za, Zb, Zc, reduceCtorEq, kont_eq, zU, zV, Zf, Zg, Zh, Zi, Zd, Ze, zF, gi, hue, tn_cast, hci]
  refine ⟨by omega, (hr x A).mono ?_⟩
  rintro rv A1 ⟨⟨u, W, rfl, hV⟩, rf, KA1⟩
  have sA1 := KA1.size
  rw [kont_eq]
  simp -implicitDefEqProofs only [go_sem, zS, ↓reduceIte, Za, Zb, Zc, reduceCtorEq, zU, zV, Zf, Zg, Zh, Zi, Zd, Ze, zF]
  refine kont_news fun A2 bb eb zb BB KB => ?_
  have BB' : Bl A2 bb [u] := BB
  simp -implicitDefEqProofs only [go_sem, zS, ↓reduceIte, Za, Zb, Zc, reduceCtorEq, kont_eq, zU, zV, Zf, Zg, Zh, Zi, Zd, Ze, zF, g8]
  have hu1 : all1 #[u] := hV.sl.one
  refine app_sl (OA.keep (KA1.trans KB) (by simp)) (SlR.bl BB' 0 1 1 (by omega) (by simp)) hu1 rfl (by unfold maxLen; simp; omega) (by simp; omega) fun v' A3 O3 K3 o3 => ?_
  have k3 : Keep (fun q => H6.size <= q) A2 A3 := K3.mono fun q _ h => oA q h
  have hown : ∀ q, ownB lv q -> q < A.size := fun q hq => OA.old hq
  have hus : ∀ q, slB u q -> q < A1.size := fun q hq => (SetM.old (x := .agg #[u]) ⟨u, W, rfl, hV⟩ (k := q) hq)
  have hvs : ∀ z ∈ vs, ∀ q, slB z q -> q < A.size := fun z hz q hq => by
   obtain ⟨j, hj, rfl⟩ := List.getElem_of_mem hz
   exact (RA.at_ j hj (by rw [<- RA.len]; exact hj)).old (k := q) hq
  simp -implicitDefEqProofs only [go_sem, zS, ↓reduceIte, Za, Zb, Zc, reduceCtorEq, kont_eq, zU, zV, Zf, Zg, Zh, Zi, Zd, Ze]
  refine ⟨v', vs ++ [u], rfl, O3, ?_, fun q hq => ?_, fun z hz q hq => ?_, ((KA.trans KA1).trans KB).trans' k3 fun q hq h => by omega⟩
  ·rw [take_snoc' hil, <- hx]
   refine ((RA.keep0 (KA1.trans KB)).keep K3 fun z hz q hq => (rA z hz q hq).2).snoc ((SetM.keep0 ⟨u, W, rfl, hV⟩ KB).keep K3 fun q hq h => ?_)
   have := rf q hq; have := hown q h; omega
  ·rcases o3 q hq with h | h
   ·exact oA q h
   ·omega
  ·rcases List.mem_append.1 hz with hz | hz
   ·refine ⟨(rA z hz q hq).1, fun h => ?_⟩
    rcases o3 q h with h | h
    ·exact (rA z hz q hq).2 h
    ·have := hvs z hz q hq; omega
   ·simp only [List.mem_singleton] at hz
    subst hz
    have h1 := rf q hq
    have h2 := hus q hq
    refine ⟨by omega, fun h => ?_⟩
    rcases o3 q h with h | h
    ·have := hown q h; omega
    ·omega
 ·rintro g A gi ⟨lv, vs, g8, OA, RA, oA, rA, KA⟩
  simp -implicitDefEqProofs only [go_sem, zS, ↓reduceIte, Za, Zb, Zc, reduceCtorEq, kont_eq, zU, zV, Zf, Zg, Zh, Zi, Zd, Ze] at g8
  rw [List.take_of_length_le (by rw [masksF_len]; omega)] at RA
  have sA := KA.size
  have K6A := K6.trans KA
  have B5A := K6A.bl B5 (by simp)
  have K2A : Keep (fun _ => False) H2 A := (K3.trans K35).trans K6A
  have K3A : Keep (fun _ => False) H3 A := K35.trans K6A
  have B2A := K2A.bl B2' (by simp)
  have B4A := K3A.bl B3' (by simp)
  have hb4 : b4 < b6 := by have := B3'.lt; have := K4.size; omega
  simp -implicitDefEqProofs only [go_sem, zS, ↓reduceIte, Za, Zb, Zc, reduceCtorEq, kont_eq, zU, zV, Zf, Zg, Zh, Zi, Zd, Ze, zF]
  refine vc_drk (fun q => q = b2 \/ q = b4) ?_
  simp -implicitDefEqProofs only [go_sem, zS, ↓reduceIte, Za, Zb, Zc, reduceCtorEq, kont_eq, zU, zV, Zf, Zg, Zh, Zi, Zd, Ze, zF, B5A.ldNO 5 rfl, g8]
  have rw0 := hw0.keep0 (K5.trans K6A)
  refine ⟨by omega, by omega, (hf (mkF r) _ A rw0 (mkF_small r)).mono ?_⟩
  rintro fv X ⟨hfv, KX⟩
  have hfv0 := hfv
  obtain ⟨fs, fb, fd, fa, fm, ms, rfl, f1, f2, f3, f4, f5, f6, f7, f8, f9, f10⟩ := hfv
  have one2 : ([fs, fb, fd, fa, fm].all fun v => v.oneCell') = true := by
   obtain ⟨_, _, _, rfl⟩ := f1.shape
   obtain ⟨_, _, _, rfl⟩ := f2.shape
   obtain ⟨_, _, _, rfl⟩ := f3.shape
   obtain ⟨_, _, _, rfl⟩ := f4.shape
   obtain ⟨_, _, _, rfl⟩ := f5.shape
   rfl
  have s3 := K3A.size
  have s0A : H.size <= A.size := by have := K03.size; omega
  have B2X := KX.bl B2A (by simp)
  have B4X := KX.bl B4A (by simp)
  have hbX : b4 < X.size := B4X.lt
  have B2Y := B2X.stNA 0 [fs, fb, fd, fa, fm]
  have ky : Keep (fun q => q = b2) X (stNA X ⟨b2, 0, none⟩ [fs, fb, fd, fa, fm]) := (Keep.refl _ _).stNA _ (.inl rfl)
  have B4Y := ky.bl B4X (by omega)
  have B4Z := B4Y.stNA 0 [ws, wb, wd, wa, wm]
  have kz : Keep (fun q => q = b4) (stNA X ⟨b2, 0, none⟩ [fs, fb, fd, fa, fm]) (stNA (stNA X ⟨b2, 0, none⟩ [fs, fb, fd, fa, fm]) ⟨b4, 0, none⟩ [ws, wb, wd, wa, wm]) := (Keep.refl _ _).stNA _ (.inl rfl)
  have B2Z := kz.bl B2Y (by omega)
  have B2Z' : Bl (stNA (stNA X ⟨b2, 0, none⟩ [fs, fb, fd, fa, fm]) ⟨b4, 0, none⟩ [ws, wb, wd, wa, wm]) b2 [fs, fb, fd, fa, fm] := B2Z
  have B4Z' : Bl (stNA (stNA X ⟨b2, 0, none⟩ [fs, fb, fd, fa, fm]) ⟨b4, 0, none⟩ [ws, wb, wd, wa, wm]) b4 [ws, wb, wd, wa, wm] := B4Z
  have kk : Keep (fun q => q = b2 \/ q = b4) X (stNA (stNA X ⟨b2, 0, none⟩ [fs, fb, fd, fa, fm]) ⟨b4, 0, none⟩ [ws, wb, wd, wa, wm]) := (ky.mono fun q _ e => .inl e).trans (kz.mono fun q _ e => .inr e)
  have hlow : ∀ q, H3.size <= q -> ¬ (q = b2 \/ q = b4) := fun q hq h => by have := B3'.lt; omega
  have s36 : H3.size <= H6.size := by have := K35.size; have := K6.size; omega
  simp -implicitDefEqProofs only [go_sem, zS, ↓reduceIte, Za, Zb, Zc, reduceCtorEq, kont_eq, zU, zV, Zf, Zg, Zh, Zi, Zd, Ze, zF, B2X.okNA (o := 0) (n := 5) (by simp), B4Y.okNA (o := 0) (n := 5) (by simp), B2Z'.ldNO 5 rfl, B4Z'.ldNO 5 rfl]
  refine ⟨KX.any, all1_of one2, ky.mono fun q _ e => .inl e, all1_of one, kz.mono fun q _ e => .inr e, ?_⟩
  rw [hQ]
  have pres : ∀ c ∈ [fs, fb, fd, fa, fm], ∀ q, ownB c q -> ¬ (q = b2 \/ q = b4) := fun c hc q hq => hlow q (by have := f7 c hc q hq; omega)
  refine ⟨A.size, _, lv, _, uv, rfl, s0A, ⟨fs, fb, fd, fa, fm, ms, rfl, f1.keep kk (pres _ (by simp)), f2.keep kk (pres _ (by simp)), f3.keep kk (pres _ (by simp)), f4.keep kk (pres _ (by simp)), f5.keep kk (pres _ (by simp)), f6.keep kk fun x hx q hq => hlow q (by have := f8 x hx q hq; omega), f7, f8, f9, f10⟩, fun q hq => OA.old hq, ⟨vs, (OA.keep KX (by simp)).keep kk fun q hq => hlow q (by have := oA q hq; omega), (RA.keep0 KX).keep kk fun x hx q hq => hlow q (by have := (rA x hx q hq).1; omega), fun q hq => by have := oA q hq; have := K06.size; omega, fun x hx q hq => ⟨by have := (rA x hx q hq).1; have := K06.size; omega, (rA x hx q hq).2⟩⟩, ?_, ?_, ?_⟩
  ·exact (rw0.keep0 KX).keep kk fun q hq => hlow q (by have := fw q hq; omega)
  ·exact ((OU.sl.keep KA (by simp)).keep KX (by simp)).keep kk fun q hq => hlow q (by have := oU q (OU.slB hq); have := K35.size; omega)
  ·exact ((K06.trans KA).trans KX).trans' kk fun q hq h => by omega
theorem lmakf_ok {P : Program} {ι : Ids} {k : FuncId} (hk : FnIs P k (c_lmakf ι) r_lmakf 1) (hm : RMakSpec P (ι.f 292)) (hu : RUsersSpec P (ι.f 295)) (hr : RolesSpec P (ι.f 283)) (hf : LFlowSpec P (ι.f 299)) : LMakfSpec P k := by
 intro r v H hv
 refine (lmakfX_ok hk hm hu hr hf r v H hv).mono ?_
 rintro x H' ⟨C, fv, lv, mv, uv, rfl, hC, ⟨s, b, d, a, m, ms, rfl, p1, p2, p3, p4, p5, p6, p7, p8, p9, p10⟩, -, hL, hM, hU, K⟩
 exact ⟨_, lv, mv, uv, rfl, ⟨s, b, d, a, m, ms, rfl, p1, p2, p3, p4, p5, p6, fun c hc q hq => Nat.le_trans hC (p7 c hc q hq), fun x hx q hq => Nat.le_trans hC (p8 x hx q hq), p9, p10⟩, hL, hM, hU, K⟩
theorem ProFl.all1 {H : Hp} {s b d a m : Value} {f : FlN} (h : ProFl H (.agg #[s, b, d, a, m]) f) : Mg.all1 #[s, b, d, a, m] := by
 obtain ⟨s', b', d', a', m', ms, e, h1, h2, h3, h4, h5, _⟩ := h
 simp only [Value.agg.injEq, Array.mk.injEq, List.cons.injEq, and_true] at e
 obtain ⟨rfl, rfl, rfl, rfl, rfl⟩ := e
 obtain ⟨_, _, rfl, _⟩ := h1.mk
 obtain ⟨_, _, rfl, _⟩ := h2.mk
 obtain ⟨_, _, rfl, _⟩ := h3.mk
 obtain ⟨_, _, rfl, _⟩ := h4.mk
 obtain ⟨_, _, rfl, _⟩ := h5.mk
 exact all1_of rfl
theorem RefFl.all1 {H : Hp} {s b d a m : Value} {f : FlN} (h : RefFl H (.agg #[s, b, d, a, m]) f) : Mg.all1 #[s, b, d, a, m] := by
 obtain ⟨s', b', d', a', m', e, h1, h2, h3, h4, h5⟩ := h
 simp only [Value.agg.injEq, Array.mk.injEq, List.cons.injEq, and_true] at e
 obtain ⟨rfl, rfl, rfl, rfl, rfl⟩ := e
 obtain ⟨_, _, rfl, _⟩ := h1.mk
 obtain ⟨_, _, rfl, _⟩ := h2.mk
 obtain ⟨_, _, rfl, _⟩ := h3.mk
 obtain ⟨_, _, rfl, _⟩ := h4.mk
 obtain ⟨_, _, rfl, _⟩ := h5.mk
 exact all1_of rfl
end Go.Mg
namespace Go.Mg
open Go Go.RowKit
set_option linter.all false
set_option maxRecDepth 100000
def c_idxF (ι : Ids) : S :=
 .seq (.reg [.p (.v 4) (.mv (.c (.int .i64 0)))]) (.seq (.seq (.reg [.p (.t 6) (.mv (.v 0)), .p (.v 7) (.m (.lenl (.t 6))), .p (.v 8) (.mv (.c (.int .i64 0)))]) (.blk 0 (.loop (.seq (.reg [.p (.v 9)
 (.cm .lss .i64 (.v 8) (.v 7))]) (.seq (.ite (.v 9) .skip (.exit 0)) (.seq (.blk 1 (.seq (.reg [.p (.t 10) (.mv (.v 8)), .p (.v 5) (.mv (.t 10))]) (.seq (.reg [.p (.t 11) (.mv (.v 1)), .p (.t 12) (.mv
 (.v 0)), .p (.t 13) (.mv (.v 5)), .p (.t 14) (.is 2 (.t 12) (.t 13)), .p (.t 15) (.m (.ldn 2 (.t 14))), .e (.v 16) (.callv (.t 11) [.t 15])]) (.ite (.v 16) (.seq (.reg [.p (.t 17) (.mv (.v 5)), .p (.v
 4) (.mv (.t 17))]) .ret) .skip)))) (.reg [.p (.t 18) (.ar .add .i64 (.v 8) (.c (.int .i64 1))), .p (.v 8) (.mv (.t 18))]))))))) (.seq (.reg [.p (.v 4) (.mv (.c (.int .i64 (-1))))]) .ret))
def r_idxF : List RV := [.t 4]
def c_conF (ι : Ids) : S :=
 .seq (.reg [.p (.v 4) (.mv (.c (.bool false)))]) (.seq (.reg [.p (.t 5) (.mv (.v 0)), .p (.t 6) (.mv (.v 1)), .e (.t 7) (.call (ι.f 301) [.t 5, .t 6]), .p (.t 8) (.cm .geq .i64 (.t 7) (.c (.int .i64
 0))), .p (.v 4) (.mv (.t 8))]) .ret)
def r_conF : List RV := [.t 4]
def c_conG (ι : Ids) : S :=
 .seq (.reg [.p (.v 4) (.mv (.c (.bool false)))]) (.seq (.reg [.p (.t 5) (.mv (.v 0)), .p (.t 6) (.mv (.v 1)), .e (.t 7) (.call (ι.f 303) [.t 5, .t 6]), .p (.t 8) (.cm .geq .i64 (.t 7) (.c (.int .i64
 0))), .p (.v 4) (.mv (.t 8))]) .ret)
def r_conG : List RV := [.t 4]
def c_chk1 (ι : Ids) : S :=
 .seq (.reg [.e (.v 2) (.box (ι.t 297) (.v 0)), .p (.v 3) (.mv (.c (.bool false)))]) (.seq (.reg [.p (.t 4) (.fa 0 (.v 2)), .p (.t 5) (.ld (.t 4)), .p (.t 6) (.fa 0 (.v 1)), .p (.t 7) (.ld (.t 6)), .p
 (.t 8) (.sc .eql (.t 5) (.t 7)), .p (.v 3) (.mv (.t 8))]) .ret)
def r_chk1 : List RV := [.t 3]
def c_bbelow (ι : Ids) : S :=
 .seq (.reg [.e (.v 2) (.new (ι.t 128) #[.slice .none 0 0])]) (.seq (.reg [.p (.t 5) (.mv (.v 0)), .p (.t 6) (.m (.mx (.t 5) (.c (.int .i64 0)))), .p (.t 7) (.m (.mn (.t 6) (.c (.int .i64 4096)))), .p
 (.v 0) (.mv (.t 7))]) (.seq (.reg [.p (.t 8) (.mv (.v 0)), .p (.t 9) (.ar .add .i64 (.t 8) (.c (.int .i64 63))), .p (.t 10) (.dv .quo .i64 (.t 9) (.c (.int .i64 64))), .e (.t 11) (.mkS (ι.t 28) 1 8
 #[.int .u64 0] (.t 10) (.t 10)), .p (.v 3) (.mv (.t 11))]) (.seq (.seq (.reg [.p (.t 12) (.mv (.v 3)), .p (.v 13) (.m (.lenl (.t 12))), .p (.v 14) (.mv (.c (.int .i64 0)))]) (.blk 0 (.loop (.seq (.reg
 [.p (.v 15) (.cm .lss .i64 (.v 14) (.v 13))]) (.seq (.ite (.v 15) .skip (.exit 0)) (.seq (.blk 1 (.seq (.reg [.p (.t 16) (.mv (.v 14)), .p (.v 4) (.mv (.t 16))]) (.reg [.p (.t 17) (.mv (.v 3)), .p (.t
 18) (.mv (.v 4)), .p (.t 19) (.is 1 (.t 17) (.t 18)), .e .no (.st (.t 19) (.c (.int .u64 18446744073709551615)))]))) (.reg [.p (.t 20) (.ar .add .i64 (.v 14) (.c (.int .i64 1))), .p (.v 14) (.mv (.t
 20))]))))))) (.seq (.seq (.reg [.p (.t 21) (.mv (.v 0)), .p (.t 22) (.dv .rem .i64 (.t 21) (.c (.int .i64 64))), .p (.v 23) (.cm .gtr .i64 (.t 22) (.c (.int .i64 0)))]) (.ite (.v 23) (.reg [.p (.t 24)
 (.mv (.v 3)), .p (.t 25) (.mv (.v 3)), .p (.t 26) (.m (.lenl (.t 25))), .p (.t 27) (.ar .sub .i64 (.t 26) (.c (.int .i64 1))), .p (.t 28) (.mv (.v 0)), .p (.t 29) (.dv .rem .i64 (.t 28) (.c (.int .i64
 64))), .p (.t 30) (.sh .shl .u64 (.c (.int .u64 1)) (.t 29)), .p (.t 31) (.ar .sub .u64 (.t 30) (.c (.int .u64 1))), .p (.t 32) (.is 1 (.t 24) (.t 27)), .e .no (.st (.t 32) (.t 31))]) .skip)) (.seq
 (.reg [.p (.t 33) (.mv (.v 3)), .p (.t 34) (.m (.bld #[.slice .none 0 0] [(0, (1, .t 33))])), .e .no (.stn 1 (.v 2) (.t 34))]) .ret)))))
def r_bbelow : List RV := [.cn 2 1]
def ValidASpec (P : Program) (k : FuncId) : Prop := ∀ (s : List UInt8) (H : Hp), CallsM P k #[sV s] H fun r H' => r = .bool (validF s) /\ Keep (fun _ => False) H H'
theorem nvalidA_ok {P : Program} {ι : Ids} {k : FuncId} (hk : FnIs P k (c_nvalid ι) r_nvalid 1) (h : ValidSpec P k) : ValidASpec P k := by
 intro s H
 by_cases hs : s.length <= 1000000
 ·exact h s H hs
 refine calls_of_vc hk (args := [_]) (by simp) ?_
 unfold c_nvalid r_nvalid
 have e0 : ((s.length : Int) == 0) = false := by
  apply beq_eq_false_iff_ne.2; omega
 have e1 : decide ((s.length : Int) > 12) = true := decide_eq_true (by omega)
 have hv : validF s = false := by
  have : ¬ s.length <= 12 := by omega
  simp [validF, this]
 simp -implicitDefEqProofs only [go_sem, zS, ↓reduceIte, Za, Zb, Zc, reduceCtorEq, kont_eq, zU, zV, Zf, Zg, Zh, Zi, Zd, Ze, zF, sV, ba_size, e0, e1, hv]
 exact Keep.refl _ _
def AnsC {α : Type} (P : Program) (enc : α -> List Value) (q : α -> Bool) (l : List α) (g : FuncId) (fi ca : Array Value) (H : Hp) : Prop := bodyOk P g = true /\ ∀ x ∈ l, ∀ A, Keep (fun _ => False) H A -> CallsM P g (fi ++ #[.agg (enc x).toArray] ++ ca) A fun r A' => r = .bool (q x) /\ Keep (fun _ => False) A A'
def fidxI {α : Type} (q : α -> Bool) (l : List α) : Int := match l.findIdx? q with | some i => (i : Int) | none => -1
def IdxFSpec {α : Type} (enc : α -> List Value) (P : Program) (k : FuncId) : Prop := ∀ (l : List α) (q : α -> Bool) (v : Value) (g : FuncId) (fi ca : Array Value) (H : Hp), SlE enc 2 H v l -> l.length <= 1000000 -> AnsC P enc q l g fi ca H -> CallsM P k #[v, .func (.func g) fi ca] H fun r H' => r = .int .i64 (fidxI q l) /\ Keep (fun _ => False) H H'
theorem idxF_ok {α : Type} {enc : α -> List Value} (he : ∀ x, (enc x).length = 2) {P : Program} {ι : Ids} {k : FuncId} (hk : FnIs P k (c_idxF ι) r_idxF 2) : IdxFSpec enc P k := by
 intro l q v g fi ca H hv hl ⟨hg, hq⟩
 obtain ⟨Q, hQ⟩ : ∃ Q : Value -> Hp -> Prop, Q = fun r H' => r = .int .i64 (fidxI q l) /\ Keep (fun _ => False) H H' := ⟨_, rfl⟩
 rw [<- hQ]
 refine calls_of_vc hk (args := [_, _]) (by simp) ?_
 unfold c_idxF r_idxF
 simp -implicitDefEqProofs only [go_sem, zS, ↓reduceIte, Za, Zb, Zc, reduceCtorEq, kont_eq, zU, zV, Zf, Zg, Zh, Zi, Zd, Ze, zF, hv.isSl, hv.len]
 refine vc_range l.length [9, 5, 16, 4, 8] rfl rfl (by omega) (by simp -implicitDefEqProofs only [go_sem, zS, ↓reduceIte, Za, Zb, Zc, reduceCtorEq, kont_eq, zU, zV, Zf, Zg, Zh, Zi, Zd, Ze]) (by simp -implicitDefEqProofs only [go_sem, zS, ↓reduceIte, Za, Zb, Zc, reduceCtorEq, kont_eq, zU, zV, Zf, Zg, Zh, Zi, Zd, Ze]) (fun i g A => (∀ j < i, ∀ hj : j < l.length, q l[j] = false) /\ Keep (fun _ => False) H A) ⟨fun j h => by omega, Keep.refl _ _⟩ ?_ ?_
 ·rintro i f A hi gi gn ⟨hno, KA⟩
  simp -implicitDefEqProofs only [go_sem, zS, ↓reduceIte, Za, Zb, Zc, reduceCtorEq, kont_eq, zU, zV, Zf, Zg, Zh, Zi, Zd, Ze] at gi gn
  obtain ⟨pb, po, pc, hwe, hpb, hld⟩ := (hv.keep0 KA).elem he hi
  have := hq l[i] (List.getElem_mem hi) A KA
  simp -implicitDefEqProofs only [go_sem, zS, ↓reduceIte, Za, Zb, Zc, reduceCtorEq, kont_eq, zU, zV, Zf, Zg, Zh, Zi, Zd, Ze, zF, gi, hwe, tn_cast, ldNO_ptr, hld, hg]
  refine ⟨by omega, this.mono ?_⟩
  rintro r A1 ⟨rfl, K1⟩
  rw [kont_eq]
  simp -implicitDefEqProofs only [go_sem, zS, ↓reduceIte, Za, Zb, Zc, reduceCtorEq, kont_eq, zU, zV, Zf, Zg, Zh, Zi, Zd, Ze, zF]
  refine iteV_of (fun hb => ?_) (fun hb => ?_)
  ·rw [hQ]
   have : l.findIdx? q = some i := List.findIdx?_eq_some_iff_getElem.2 ⟨hi, hb, fun j hj => by rw [hno j hj (by omega)]; simp⟩
   refine ⟨?_, KA.trans K1⟩
   simp only [fidxI, this]
  ·refine ⟨fun j hj hj' => ?_, KA.trans K1⟩
   by_cases e : j = i
   ·subst e; exact hb
   ·exact hno j (by omega) hj'
 ·rintro f A gi ⟨hno, KA⟩
  simp -implicitDefEqProofs only [go_sem, zS, ↓reduceIte, Za, Zb, Zc, reduceCtorEq, kont_eq, zU, zV, Zf, Zg, Zh, Zi, Zd, Ze, zF]
  rw [hQ]
  have : l.findIdx? q = none := by
   rw [List.findIdx?_eq_none_iff]
   intro x hx
   obtain ⟨j, hj, rfl⟩ := List.getElem_of_mem hx
   exact hno j hj hj
  refine ⟨?_, KA⟩
  simp only [fidxI, this]
def ConFSpec {α : Type} (enc : α -> List Value) (P : Program) (k : FuncId) : Prop := ∀ (l : List α) (q : α -> Bool) (v : Value) (g : FuncId) (fi ca : Array Value) (H : Hp), SlE enc 2 H v l -> l.length <= 1000000 -> AnsC P enc q l g fi ca H -> CallsM P k #[v, .func (.func g) fi ca] H fun r H' => r = .bool (l.any q) /\ Keep (fun _ => False) H H'
theorem fidxI_any {α : Type} (q : α -> Bool) (l : List α) : decide (fidxI q l ≥ 0) = l.any q := by
 unfold fidxI
 cases h : l.findIdx? q with
 | none =>
  rw [List.findIdx?_eq_none_iff] at h
  have : l.any q = false := by rw [List.any_eq_false]; intro x hx; rw [h x hx]; simp
  rw [this]; rfl
 | some i =>
  obtain ⟨hi, h1, _⟩ := List.findIdx?_eq_some_iff_getElem.1 h
  have : l.any q = true := List.any_eq_true.2 ⟨_, List.getElem_mem hi, h1⟩
  rw [this]; simp
theorem conF_ok {α : Type} {enc : α -> List Value} {P : Program} {ι : Ids} {k : FuncId} (hk : FnIs P k (c_conF ι) r_conF 2) (hi : IdxFSpec enc P (ι.f 301)) : ConFSpec enc P k := by
 intro l q v g fi ca H hv hl hq
 refine calls_of_vc hk (args := [_, _]) (by simp) ?_
 unfold c_conF r_conF
 simp -implicitDefEqProofs only [go_sem, zS, ↓reduceIte, Za, Zb, Zc, reduceCtorEq, kont_eq, zU, zV, Zf, Zg, Zh, Zi, Zd, Ze, zF]
 refine (hi l q v g fi ca H hv hl hq).mono ?_
 rintro r A ⟨rfl, K⟩
 rw [kont_eq]
 simp -implicitDefEqProofs only [go_sem, zS, ↓reduceIte, Za, Zb, Zc, reduceCtorEq, kont_eq, zU, zV, Zf, Zg, Zh, Zi, Zd, Ze, zF, fidxI_any]
 exact K
theorem conG_ok {α : Type} {enc : α -> List Value} {P : Program} {ι : Ids} {k : FuncId} (hk : FnIs P k (c_conG ι) r_conG 2) (hi : IdxFSpec enc P (ι.f 303)) : ConFSpec enc P k := by
 intro l q v g fi ca H hv hl hq
 refine calls_of_vc hk (args := [_, _]) (by simp) ?_
 unfold c_conG r_conG
 simp -implicitDefEqProofs only [go_sem, zS, ↓reduceIte, Za, Zb, Zc, reduceCtorEq, kont_eq, zU, zV, Zf, Zg, Zh, Zi, Zd, Ze, zF]
 refine (hi l q v g fi ca H hv hl hq).mono ?_
 rintro r A ⟨rfl, K⟩
 rw [kont_eq]
 simp -implicitDefEqProofs only [go_sem, zS, ↓reduceIte, Za, Zb, Zc, reduceCtorEq, kont_eq, zU, zV, Zf, Zg, Zh, Zi, Zd, Ze, zF, fidxI_any]
 exact K
theorem toList_ba (a b : List UInt8) : ((⟨a.toArray⟩ : ByteArray).toList == (⟨b.toArray⟩ : ByteArray).toList) = decide (a = b) := by
 have e : ∀ x : List UInt8, (⟨x.toArray⟩ : ByteArray).toList = x := fun x => by rw [ByteArray.toList_eq]
 rw [e, e]
 rw [Bool.eq_iff_iff]
 simp
def Chk1Spec (P : Program) (k : FuncId) : Prop := bodyOk P k = true /\ ∀ (x y : StN) (b : Nat) (H : Hp), Bl H b (encS y) -> CallsM P k #[.agg (encS x).toArray, .pointer (some ⟨b, 0, none⟩)] H fun r H' => r = .bool (decide (x.1 = y.1)) /\ Keep (fun _ => False) H H'
theorem chk1_ok {P : Program} {ι : Ids} {k : FuncId} (hk : FnIs P k (c_chk1 ι) r_chk1 2) : Chk1Spec P k := by
 refine ⟨hk.body, fun x y b H hB => ?_⟩
 refine calls_of_vc hk (args := [_, _]) (by simp) ?_
 unfold c_chk1 r_chk1
 simp -implicitDefEqProofs only [go_sem, zS, ↓reduceIte, Za, Zb, Zc, reduceCtorEq, zU, zV, Zf, Zg, Zh, Zi, Zd, Ze, zF]
 refine kont_new fun H1 b1 e1 z1 B1 K1 => ?_
 have B1' : Bl H1 b1 (encS x) := B1
 have c0 : cell H1 ⟨b1, 0, none⟩ = some (sV x.1) := by rw [B1'.cell]; rfl
 have c1 : cell H1 ⟨b, 0, none⟩ = some (sV y.1) := by rw [(K1.bl hB (by simp)).cell]; rfl
 rw [sV] at c0 c1
 simp -implicitDefEqProofs only [go_sem, zS, ↓reduceIte, Za, Zb, Zc, reduceCtorEq, kont_eq, zU, zV, Zf, Zg, Zh, Zi, Zd, Ze, zF, c0, c1, toList_ba]
 exact K1
theorem SlE.takeW {α : Type} {enc : α -> List Value} {k : Nat} {H : Hp} {v : Value} {l : List α} (hk : ∀ x, (enc x).length = k) (h : SlE enc k H v l) {n : Nat} (hn : n <= l.length) : SlE enc k H (slV v k none (some (n : Int))) (l.take n) := by
 rcases h with ⟨a, c, rfl, rfl⟩ | ⟨b, o, c, hne, rfl, h0, C, T, z, h1, h2, h3⟩
 ·have : n = 0 := by simpa using hn
  subst this
  exact .inl ⟨_, c - 0, rfl, by simp⟩
 ·have hl : (l.take n).length = n := by simp; omega
  have hm : n * k <= l.length * k := Nat.mul_le_mul hn (Nat.le_refl _)
  have := SlE.at_ (enc := enc) (k := k) (l := l.take n) (o := o) (c := c) (by omega) h1 (by rw [hl]; omega) (by
   rw [hl]
   rw [<- fl_take hk l n hn, <- h3]
   rw [List.take_take, Nat.min_eq_left hm])
  rw [hl] at this
  simp [slV, loN, hiN, add_off] at this ⊢
  exact this
def ones64 : UInt64 := 18446744073709551615
theorem bt_ones (k : Nat) (hk : k < 64) : bt ones64 k = true := by
 have : ∀ m : Fin 64, bt ones64 m.val = true := by decide
 exact this ⟨k, hk⟩
def lowW (k : Nat) : UInt64 := UInt64.ofNat (2 ^ k - 1)
theorem bt_lowW (k j : Nat) (hk : k < 64) : bt (lowW k) j = decide (j < k) := by
 have e : (lowW k).toNat = 2 ^ k - 1 := by
  unfold lowW
  rw [UInt64.toNat_ofNat']
  apply Nat.mod_eq_of_lt
  have : 2 ^ k <= 2 ^ 63 := Nat.pow_le_pow_right (by omega) (by omega)
  omega
 unfold bt
 rw [e, Nat.testBit_two_pow_sub_one]
def belW (n : Nat) : List UInt64 := if n % 64 > 0 then (List.replicate ((n + 63) / 64) ones64).set ((n + 63) / 64 - 1) (lowW (n % 64)) else List.replicate ((n + 63) / 64) ones64
theorem belW_len (n : Nat) : (belW n).length = (n + 63) / 64 := by unfold belW; split <;> simp
theorem belW_mem (n i : Nat) : memb (belW n) i = decide (i < n) := by
 have hi : i % 64 < 64 := Nat.mod_lt _ (by omega)
 have rep : ∀ m j, (List.replicate m ones64).getD j 0 = if j < m then ones64 else 0 := fun m j => by
  rw [List.getD_eq_getElem?_getD, List.getElem?_replicate]; split <;> rfl
 unfold belW memb
 split
 ·next h =>
  have hm : 0 < (n + 63) / 64 := by omega
  rw [List.getD_eq_getElem?_getD, List.getElem?_set]
  by_cases e : (n + 63) / 64 - 1 = i / 64
  ·rw [if_pos e, if_pos (by simp; omega), Option.getD_some, bt_lowW _ _ (by omega)]
   rw [decide_eq_decide]; omega
  ·rw [if_neg e, <- List.getD_eq_getElem?_getD, rep]
   split
   ·next h2 => rw [bt_ones _ hi, eq_comm, decide_eq_true_iff]; omega
   ·next h2 => rw [bt_zero, eq_comm, decide_eq_false_iff_not]; omega
 ·next h =>
  rw [rep]
  split
  ·next h2 => rw [bt_ones _ hi, eq_comm, decide_eq_true_iff]; omega
  ·next h2 => rw [bt_zero, eq_comm, decide_eq_false_iff_not]; omega
def BBelowSpec (P : Program) (k : FuncId) : Prop := ∀ (n : Nat) (H : Hp), n <= 4096 -> CallsM P k #[.int .i64 n] H fun r H' => SetM H' r (fun i => decide (i < n)) /\ Keep (fun _ => False) H H' /\ ∀ q, setB r q -> H.size <= q
theorem sub1w (k : Nat) (hk : k < 64) : IntKind.u64.wrap (IntKind.u64.wrap (1 * 2 ^ k) - 1) = ((lowW k).toNat : Int) := by
 have : ∀ m : Fin 64, IntKind.u64.wrap (IntKind.u64.wrap (1 * 2 ^ m.val) - 1) = ((lowW m.val).toNat : Int) := by decide
 exact this ⟨k, hk⟩
theorem bbelow_ok {P : Program} {ι : Ids} {k : FuncId} (hk : FnIs P k (c_bbelow ι) r_bbelow 1) : BBelowSpec P k := by
 intro n H hn
 obtain ⟨Q, hQ⟩ : ∃ Q : Value -> Hp -> Prop, Q = fun r H' => SetM H' r (fun i => decide (i < n)) /\ Keep (fun _ => False) H H' /\ ∀ q, setB r q -> H.size <= q := ⟨_, rfl⟩
 rw [<- hQ]
 refine calls_of_vc hk (args := [_]) (by simp) ?_
 unfold c_bbelow r_bbelow
 simp -implicitDefEqProofs only [go_sem, zS, ↓reduceIte, Za, Zb, Zc, reduceCtorEq, zU, zV, Zf, Zg, Zh, Zi, Zd, Ze, zF]
 refine kont_new fun H1 b1 e1 z1 B1 K1 => ?_
 have B1' : Bl H1 b1 [.slice none 0 0] := B1
 have m1 : (if (0 : Int) > (n : Int) then (0 : Int) else (n : Int)) = (n : Int) := if_neg (by omega)
 have m2 : (if (4096 : Int) < (n : Int) then (4096 : Int) else (n : Int)) = (n : Int) := if_neg (by omega)
 have w1 : IntKind.i64.wrap ((n : Int) + 63) = ((n + 63 : Nat) : Int) := by rw [IntWalk.i64_in _ (by omega)]; omega
 have w2 : IntKind.i64.wrap (((n + 63 : Nat) : Int).tdiv 64) = (((n + 63) / 64 : Nat) : Int) := by
  have : ((n + 63 : Nat) : Int).tdiv 64 = (((n + 63) / 64 : Nat) : Int) := rfl
  rw [this, IntWalk.i64_in _ (by omega)]
 have hm : (n + 63) / 64 <= maxLen := by unfold maxLen; omega
 obtain ⟨N, hN⟩ : ∃ N, N = (n + 63) / 64 := ⟨_, rfl⟩
 have hN64 : N <= 64 := by omega
 have hml : N <= maxLen := by unfold maxLen; omega
 simp -implicitDefEqProofs only [go_sem, zS, ↓reduceIte, Za, Zb, Zc, reduceCtorEq, zU, zV, Zf, Zg, Zh, Zi, Zd, Ze, zF, m1, m2, w1, w2, tn_cast, kindOf, <- hN]
 refine ⟨by decide, ⟨by omega, by omega, by omega⟩, ?_⟩
 refine kont_news fun H2 b2 e2 z2 B2 K2 => ?_
 have B2' : Bl H2 b2 (List.replicate N (.int .u64 0)) := by rw [rep_one] at B2; exact B2
 have hb12 : b1 < b2 := by have := B1'.lt; omega
 simp -implicitDefEqProofs only [go_sem, zS, ↓reduceIte, Za, Zb, Zc, reduceCtorEq, kont_eq, zU, zV, Zf, Zg, Zh, Zi, Zd, Ze, zF]
 refine vc_range N [15, 4, 14] rfl rfl (by omega) (by simp -implicitDefEqProofs only [go_sem, zS, ↓reduceIte, Za, Zb, Zc, reduceCtorEq, kont_eq, zU, zV, Zf, Zg, Zh, Zi, Zd, Ze]) (by simp -implicitDefEqProofs only [go_sem, zS, ↓reduceIte, Za, Zb, Zc, reduceCtorEq, kont_eq, zU, zV, Zf, Zg, Zh, Zi, Zd, Ze]) (fun i g A => Bl A b2 (w64 (List.replicate i ones64 ++ List.replicate (N - i) 0)) /\ Keep (fun q => q = b2) H2 A) ⟨by rw [w64_rep] at B2'; simpa using B2', Keep.refl _ _⟩ ?_ ?_
 ·rintro i g A hi gi gn ⟨BA, KA⟩
  simp -implicitDefEqProofs only [go_sem, zS, ↓reduceIte, Za, Zb, Zc, reduceCtorEq, kont_eq, zU, zV, Zf, Zg, Zh, Zi, Zd, Ze] at gi gn
  have hlen : (w64 (List.replicate i ones64 ++ List.replicate (N - i) 0)).length = N := by rw [w64_len]; simp; omega
  have hst := BA.okSt (o := i) (by rw [hlen]; exact hi)
  have BS := BA.setc i (.int .u64 18446744073709551615)
  have e64 : (Value.int .u64 18446744073709551615) = .int .u64 (ones64.toNat : Int) := rfl
  rw [e64, w64_set _ _ (by simp; omega)] at BS
  have es : (List.replicate i ones64 ++ List.replicate (N - i) 0).set i ones64 = List.replicate (i + 1) ones64 ++ List.replicate (N - (i + 1)) (0 : UInt64) := by
   refine List.ext_getElem? fun j => ?_
   rw [List.getElem?_set]
   by_cases hj : i = j
   ·subst hj
    rw [if_pos rfl, if_pos (by simp; omega), List.getElem?_append_left (by simp), List.getElem?_replicate, if_pos (by omega)]
   ·rw [if_neg hj]
    by_cases hl : j < i
    ·rw [List.getElem?_append_left (by simpa using hl), List.getElem?_append_left (by simp; omega), List.getElem?_replicate, List.getElem?_replicate, if_pos hl, if_pos (by omega)]
    ·rw [List.getElem?_append_right (by simp; omega), List.getElem?_append_right (by simp; omega), List.getElem?_replicate, List.getElem?_replicate]
     simp only [List.length_replicate]
     split <;> split <;> first | rfl | omega
  rw [es] at BS
  simp -implicitDefEqProofs only [go_sem, zS, ↓reduceIte, Za, Zb, Zc, reduceCtorEq, kont_eq, zU, zV, Zf, Zg, Zh, Zi, Zd, Ze, zF, gi, tn_cast, hst]
  exact ⟨by omega, BS, KA.setc _ (.inl rfl)⟩
 ·rintro g A gi ⟨BA, KA⟩
  rw [Nat.sub_self, List.replicate_zero, List.append_nil] at BA
  have m3 : ((n : Int)).tmod 64 = ((n % 64 : Nat) : Int) := tmod_nat _ 64
  have B1A := (K2.any.trans KA).bl B1' (by omega)
  have sA := KA.size
  simp -implicitDefEqProofs only [go_sem, zS, ↓reduceIte, Za, Zb, Zc, reduceCtorEq, kont_eq, zU, zV, Zf, Zg, Zh, Zi, Zd, Ze, zF, m3]
  have fin : ∀ (W : List UInt64) (X : Hp), Bl X b2 (w64 W) -> W.length = N -> (∀ i, memb W i = decide (i < n)) -> (W = belW n) -> Keep (fun q => q = b2) A X -> (okNA X ⟨b1, 0, none⟩ 1 /\ all1 #[Value.slice (some ⟨b2, 0, none⟩) N N]) /\ (ldNO (stNA X ⟨b1, 0, none⟩ [Value.slice (some ⟨b2, 0, none⟩) N N]) (.pointer (some ⟨b1, 0, none⟩)) 1).isSome = true /\ Q (.agg ((ldNO (stNA X ⟨b1, 0, none⟩ [Value.slice (some ⟨b2, 0, none⟩) N N]) (.pointer (some ⟨b1, 0, none⟩)) 1).getD #[])) (stNA X ⟨b1, 0, none⟩ [Value.slice (some ⟨b2, 0, none⟩) N N]) := fun W X hB hl hmem hW hK => by
   have B1X := hK.bl B1A (by omega)
   refine retN (n := 1) (cs := [.slice (some ⟨b2, 0, none⟩) N N]) B1X rfl rfl rfl fun HZ zz BZ KZ => ?_
   rw [hQ]
   have hsl : SlR HZ (.slice (some ⟨b2, 0, none⟩) N N) (w64 W) := by
    have := SlR.bl (KZ.bl hB (by omega)) 0 N N (Nat.le_refl _) (by rw [w64_len]; omega)
    rw [List.drop_zero, List.take_of_length_le (by rw [w64_len]; omega)] at this
    exact this
   refine ⟨⟨_, W, rfl, ⟨hsl, by omega, ?_, hmem⟩⟩, ?_, ?_⟩
   ·refine Can.of_top fun hne => ⟨n - 1, ?_, ?_⟩
    ·rw [hmem]; exact decide_eq_true (by
      have : 0 < N := by rw [<- hl]; exact List.length_pos_iff.2 hne
      omega)
    ·omega
   ·exact ((K1.trans K2).trans' (KA.trans hK) fun q hq e => by have := K1.size; omega).trans' KZ fun q hq e => by omega
   ·intro q hq
    have hq : q = b2 /\ _ := hq
    have := K1.size
    omega
  by_cases hp : n % 64 > 0
  ·have d1 : decide (((n % 64 : Nat) : Int) > 0) = true := decide_eq_true (by omega)
   have w4 : IntKind.i64.wrap ((N : Int) - 1) = ((N - 1 : Nat) : Int) := by rw [IntWalk.i64_in _ (by omega)]; omega
   have hst := BA.okSt (o := N - 1) (by rw [w64_len]; simp; omega)
   have BS := BA.setc (N - 1) (.int .u64 ((lowW (n % 64)).toNat : Int))
   rw [w64_set _ _ (by simp; omega)] at BS
   have eW : (List.replicate N ones64).set (N - 1) (lowW (n % 64)) = belW n := by unfold belW; rw [if_pos hp, hN]
   rw [eW] at BS
   simp -implicitDefEqProofs only [go_sem, zS, ↓reduceIte, Za, Zb, Zc, reduceCtorEq, kont_eq, zU, zV, Zf, Zg, Zh, Zi, Zd, Ze, zF, d1, w4, tn_cast, sub1w (n % 64) (by omega), hst]
   refine ⟨by decide, by decide, by omega, by omega, ?_⟩
   exact fin (belW n) _ BS (by rw [belW_len, hN]) (belW_mem n) rfl ((Keep.refl _ _).setc _ (.inl rfl))
  ·have d1 : decide (((n % 64 : Nat) : Int) > 0) = false := decide_eq_false (by omega)
   have eW : List.replicate N ones64 = belW n := by unfold belW; rw [if_neg hp, hN]
   rw [eW] at BA
   simp -implicitDefEqProofs only [go_sem, zS, ↓reduceIte, Za, Zb, Zc, reduceCtorEq, kont_eq, zU, zV, Zf, Zg, Zh, Zi, Zd, Ze, zF, d1]
   refine ⟨by decide, ?_⟩
   exact fin (belW n) _ BA (by rw [belW_len, hN]) (belW_mem n) rfl (Keep.refl _ _)
end Go.Mg
