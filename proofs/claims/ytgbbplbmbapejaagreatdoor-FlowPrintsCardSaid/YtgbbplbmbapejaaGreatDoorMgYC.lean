/- law 40: FlowPrints. -/
import Derived.Test.YtgbbplbmbapejaaGreatDoorMgYB
import Derived.Test.YtgbbplbmbapejaaGreatDoorMgVE
import Derived.Test.YtgbbplbmbapejaaGreatDoorMgN7
open Nat renaming reduceEqDiff → Za, reduceAdd → Zb, reduceMul → Zc, reduceLeDiff → Zd, reduceLT → Ze
open Int renaming reduceBEq → Zf, reduceBNe → Zg, reduceLE → Zh, reduceLT → Zi
namespace Go.Mg
open Go Go.RowKit
set_option linter.all false
set_option maxRecDepth 100000
def c_fqR (ι : Ids) : S :=
 (.dr (.px (.t 30) .none (.mv (.v 11)) (.px (.t 31) .none (.cm .eql .i64 (.t 30) (.c (.int .i64 0))) (.px (.t 32) .none (.mv (.t 31)) (.px (.t 33) (.some (.t 32, true)) (.m (.ldn 5 (.v 5))) (.px (.t
 34) (.some (.t 32, true)) (.mv (.v 10)) (.px (.t 36) (.some (.t 32, true)) (.m (.ldn 5 (.v 7))) (.px (.t 37) (.some (.t 32, true)) (.mv (.v 9)) (.wcons (.t 35) (.some (.t 32, true)) (.call (ι.f 450)
 [.t 33, .t 34]) (.wcons (.t 38) (.some (.t 32, true)) (.call (ι.f 451) [.t 36, .t 37]) (.px (.t 39) (.some (.t 32, true)) (.sc .eql (.t 35) (.t 38)) (.px (.t 40) .none (.pick (.t 32) (.t 39) (.c
 (.bool false))) (.px (.t 41) .none (.mv (.t 40)) (.px (.t 42) (.some (.t 41, true)) (.m (.ldn 5 (.v 5))) (.px (.t 44) (.some (.t 41, true)) (.m (.ldn 5 (.v 7))) (.wcons (.t 43) (.some (.t 41, true))
 (.call (ι.f 450) [.t 42, .c (.pointer .none)]) (.wcons (.t 45) (.some (.t 41, true)) (.call (ι.f 451) [.t 44, .c (.slice .none 0 0)]) (.px (.t 46) (.some (.t 41, true)) (.sc .eql (.t 43) (.t 45)) (.px
 (.t 47) .none (.pick (.t 41) (.t 46) (.c (.bool false))) (.px (.v 4) .none (.mv (.t 47)) .done))) .wnil) .wnil)))))) .wnil) .wnil)))))))))
def c_lfprn (ι : Ids) : S :=
 .seq (.reg [.e (.v 2) (.box (ι.t 288) (.v 0)), .p (.v 4) (.mv (.c (.bool false)))]) (.seq (.seq (.reg [.e (.t 12) (.call (ι.f 323) []), .p (.v 13) (.not (.t 12))]) (.ite (.v 13) (.seq (.reg [.p (.v 4)
 (.mv (.c (.bool false)))]) .ret) .skip)) (.seq (.reg [.p (.t 15) (.m (.ldn 7 (.v 2))), .e (.t 16) (.call (ι.f 300) [.t 15]), .p (.t 14) (.mv (.t 16)), .p (.t 17) (.ext (.t 14) 0), .p (.t 18) (.ext (.t
 14) 1), .p (.t 19) (.ext (.t 14) 2), .p (.t 20) (.ext (.t 14) 3), .e (.v 5) (.new (ι.t 296) #[.slice .none 0 0, .slice .none 0 0, .slice .none 0 0, .slice .none 0 0, .slice .none 0 0]), .e (.v 7)
 (.new (ι.t 289) #[.slice .none 0 0, .slice .none 0 0, .slice .none 0 0, .slice .none 0 0, .slice .none 0 0]), .e .no (.stn 5 (.v 5) (.t 17)), .p (.t 6) (.mv (.t 18)), .e .no (.stn 5 (.v 7) (.t 19)),
 .p (.t 8) (.mv (.t 20))]) (.seq (.reg [.e (.t 21) (.bldF (ι.t 67) 1 4 [.c (.string ⟨#[99, 108, 101, 114, 107]⟩), .c (.string ⟨#[97, 117, 100, 105, 116, 111, 114]⟩), .c (.string ⟨#[109, 97, 110, 97,
 103, 101, 114]⟩), .c (.string ⟨#[116, 101, 108, 108, 101, 114]⟩)]), .p (.t 22) (.mv (.v 1)), .p (.t 23) (.dv .rem .u8 (.t 22) (.c (.int .u8 5))), .p (.t 24) (.m (.sls 1 (.t 21) .none (.some (.t
 23)))), .p (.v 9) (.mv (.t 24))]) (.seq (.reg [.p (.t 26) (.mv (.v 9)), .e (.t 27) (.call (ι.f 101) [.t 26, .c (.int .i64 9)]), .p (.t 25) (.mv (.t 27)), .p (.t 28) (.ext (.t 25) 0), .p (.t 29) (.ext
 (.t 25) 1), .p (.v 10) (.mv (.t 28)), .p (.v 11) (.mv (.t 29))]) (.seq (c_fqR ι) .ret)))))
def r_lfprn : List RV := [.t 4]
def wrd4 : List (List UInt8) := [[99, 108, 101, 114, 107], [97, 117, 100, 105, 116, 111, 114], [109, 97, 110, 97, 103, 101, 114], [116, 101, 108, 108, 101, 114]]
theorem ofE_4 : ∀ k : Fin 5, ofE 9 [] (wrd4.take k.val) = 0 := by decide +kernel
theorem nmF_mk (r : RawF) (k : Nat) : (nmF (mkF r) k).length <= 100 := by
 unfold nmF mkF stsF
 rw [List.getD_eq_getElem?_getD, List.getElem?_map]
 cases (List.range (nuF r))[k]? with
 | none => simp
 | some x => simp [nmS]
theorem ro_mk (r : RawF) (k : Nat) (hk : k < (mkF r).st.length) : 1 <= ((mkF r).st.getD k ([], 0)).2 /\ ((mkF r).st.getD k ([], 0)).2 < 10 := by
 rw [mkF_len] at hk
 unfold mkF stsF
 rw [List.getD_eq_getElem?_getD, List.getElem?_map, List.getElem?_range hk]
 simp only [Option.map_some, Option.getD_some]
 unfold roI
 split <;> omega
theorem roW_sm {rl : List (List UInt8)} (h : ∀ w ∈ rl, w.length <= 100) (x : Int) : (roW rl x).length <= 100 := by
 unfold roW
 split
 ·next hx =>
  rw [List.getD_eq_getElem?_getD, List.getElem?_eq_getElem (by omega)]
  exact h _ (List.getElem_mem _)
 ·have := (itoaB_len x.toNat).2; omega
theorem mo_mk (r : RawF) (x : MoN) (hx : x ∈ (mkF r).mo) : 0 <= x.1 /\ x.1 < 10 /\ ∀ u, bt x.2 u = true -> u < (mkF r).st.length := by
 refine ⟨?_, ?_, fun u hu => ?_⟩
 ·unfold mkF at hx
  obtain ⟨y, _, rfl⟩ := List.mem_map.1 hx
  unfold moF1; omega
 ·unfold mkF at hx
  obtain ⟨y, _, rfl⟩ := List.mem_map.1 hx
  unfold moF1; omega
 ·have h := (mkF_good r).mo x hx
  unfold moE1 at h
  split at h
  ·cases h
  ·next hc =>
   have h1 := Nat.ge_two_pow_of_testBit hu
   exact Classical.byContradiction fun hn => by
    have : 2 ^ (mkF r).st.length <= 2 ^ u := Nat.pow_le_pow_right (by omega) (by omega)
    omega
theorem prt_mk (r : RawF) {rl : List (List UInt8)} (h : ∀ w ∈ rl, w.length <= 100) : PrtOk (mkF r) rl := by
 have hn := nuF_lt r
 have hl := (mkF_good r).lim
 unfold tooL at hl
 exact ⟨mkF_ok r, by rw [mkF_len]; omega, nmF_mk r, roW_sm h, fun x hx => ((mkF_good r).be x hx).1, fun x hx => ((mkF_good r).di x hx).1, fun x hx => ((mkF_good r).sa x hx).1, fun k hk => by have := ro_mk r k hk; omega, fun x hx => by
  obtain ⟨a, b, c⟩ := mo_mk r x hx
  exact ⟨a, by omega, c⟩, by omega, by omega, by omega, by omega, by omega⟩
structure LFpC (P : Program) (ι : Ids) : Prop where
 aw : FAwkSpec P ι (ι.f 323)
 mak : LMakfSpec P (ι.f 300)
 nof : NOfSpec P (ι.f 101)
 prn : FPrnSpec P ι (ι.f 450)
 rpr : RPrnSpec P (ι.f 451)
theorem lfprn_ok {P : Program} {ι : Ids} {k : FuncId} (hk : FnIs P k (c_lfprn ι) r_lfprn 2) (c : LFpC P ι) : ∀ (r : RawF) (n : UInt8) (v : Value) (H : Hp), TabOk ι H -> RawFV H v r -> CallsM P k #[v, .int .u8 n.toNat] H fun x H' => x = .bool true /\ Keep (fun _ => False) H H' := by
 intro r n v H hT hv
 obtain ⟨Q, hQ⟩ : ∃ Q : Value -> Hp -> Prop, Q = fun x H' => x = .bool true /\ Keep (fun _ => False) H H' := ⟨_, rfl⟩
 rw [<- hQ]
 have hvr := hv
 obtain ⟨h0, ro, be, di, sa, mo, el, rfl, _⟩ := hv
 refine calls_of_vc hk (args := [_, _]) (by simp) ?_
 unfold c_lfprn r_lfprn
 simp -implicitDefEqProofs only [go_sem, zS, ↓reduceIte, Za, Zb, Zc, reduceCtorEq, zU, zV, Zf, Zg, Zh, Zi, Zd, Ze, zF]
 refine kont_new fun H1 b2 e1 z1 B1 K1 => ?_
 have B1' : Bl H1 b2 [.int .u8 (r.n : Int), ro, be, di, sa, mo, el] := B1
 simp -implicitDefEqProofs only [go_sem, zS, ↓reduceIte, Za, Zb, Zc, reduceCtorEq, zU, zV, Zf, Zg, Zh, Zi, Zd, Ze, zF]
 refine (c.aw H1 (hT.keep K1)).mono ?_
 rintro x H2 ⟨rfl, K2⟩
 have K02 := K1.trans K2
 have B12 := K2.bl B1' (by simp)
 rw [kont_eq]
 simp -implicitDefEqProofs only [go_sem, zS, ↓reduceIte, Za, Zb, Zc, reduceCtorEq, zU, zV, Zf, Zg, Zh, Zi, Zd, Ze, zF, Bool.not_true, B12.ldNO 7 rfl]
 refine (c.mak r _ H2 (RawFV.keep0 hvr K02)).mono ?_
 rintro x H3 ⟨fv, lv, mv, uv, rfl, hP, hL, hM, hU, K3⟩
 have K03 := K02.trans K3
 have hP := hP.fl
 have hP0 := hP
 have hM0 := hM
 obtain ⟨s, b, d, a, m, ms, rfl, hFs, _⟩ := hP
 obtain ⟨s', b', d', a', m', rfl, _⟩ := hM
 rw [kont_eq]
 simp -implicitDefEqProofs only [go_sem, zS, ↓reduceIte, Za, Zb, Zc, reduceCtorEq, zU, zV, Zf, Zg, Zh, Zi, Zd, Ze, zF]
 refine kont_new fun H4 b5 e4 z4 B4 K4 => ?_
 have B4' : Bl H4 b5 [.slice none 0 0, .slice none 0 0, .slice none 0 0, .slice none 0 0, .slice none 0 0] := B4
 simp -implicitDefEqProofs only [go_sem, zS, ↓reduceIte, Za, Zb, Zc, reduceCtorEq, zU, zV, Zf, Zg, Zh, Zi, Zd, Ze, zF]
 refine kont_new fun H5 b7 e5 z5 B5 K5 => ?_
 have B5' : Bl H5 b7 [.slice none 0 0, .slice none 0 0, .slice none 0 0, .slice none 0 0, .slice none 0 0] := B5
 have s4 := K4.size
 have s5 := K5.size
 have B45 := K5.bl B4' (by simp)
 have t4 := B45.okNA (o := 0) (n := 5) (by simp)
 have C5 := B45.stNA 0 [s, b, d, a, m]
 have L1 : Keep (fun q => q = b5) H5 (stNA H5 ⟨b5, 0, none⟩ [s, b, d, a, m]) := (Keep.refl _ _).stNA _ (.inl rfl)
 have D7 := L1.bl B5' (by omega)
 have t7 := D7.okNA (o := 0) (n := 5) (by simp)
 have E7 := D7.stNA 0 [s', b', d', a', m']
 have L2 : Keep (fun q => q = b7) (stNA H5 ⟨b5, 0, none⟩ [s, b, d, a, m]) (stNA (stNA H5 ⟨b5, 0, none⟩ [s, b, d, a, m]) ⟨b7, 0, none⟩ [s', b', d', a', m']) := (Keep.refl _ _).stNA _ (.inl rfl)
 have D5 := L2.bl C5 (by omega)
 have ha : all1 #[s, b, d, a, m] := hP0.all1
 have ha' : all1 #[s', b', d', a', m'] := hM0.all1
 simp -implicitDefEqProofs only [go_sem, zS, ↓reduceIte, Za, Zb, Zc, reduceCtorEq, zU, zV, Zf, Zg, Zh, Zi, Zd, Ze, zF, t4, t7]
 refine ⟨ha, ?_⟩
 rw [kont_eq]
 simp -implicitDefEqProofs only [go_sem, zS, ↓reduceIte, Za, Zb, Zc, reduceCtorEq, zU, zV, Zf, Zg, Zh, Zi, Zd, Ze, zF, t7]
 refine ⟨ha', ?_⟩
 generalize stNA (stNA H5 ⟨b5, 0, none⟩ [s, b, d, a, m]) ⟨b7, 0, none⟩ [s', b', d', a', m'] = H6 at L2 D5 E7 ⊢
 have K36 : Keep (fun _ => False) H3 H6 := ((K4.trans K5).trans' L1 fun q hq h => by omega).trans' L2 fun q hq h => by omega
 have K06 := K03.trans K36
 have C5' : Bl H6 b5 [s, b, d, a, m] := D5
 have C7' : Bl H6 b7 [s', b', d', a', m'] := E7
 rw [kont_eq]
 simp -implicitDefEqProofs only [go_sem, zS, ↓reduceIte, Za, Zb, Zc, reduceCtorEq, zU, zV, Zf, Zg, Zh, Zi, Zd, Ze, zF]
 refine kont_news fun H7 p e7 z7 B7 K7 => ?_
 have B7' : Bl H7 p (sL wrd4) := B7
 obtain ⟨kk, hkk⟩ : ∃ kk, kk = n.toNat % 5 := ⟨_, rfl⟩
 have hm5 : ((n.toNat : Int)).tmod 5 = (kk : Int) := by rw [hkk]; exact tmod_nat _ _
 have hk5 : kk < 5 := by omega
 have S7 : SlR H7 (.slice (some ⟨p, 0, none⟩) 4 4) (sL wrd4) := SlR.bl B7' 0 4 4 (by omega) (by rw [sL_len']; exact Nat.le_refl _)
 have S8 := S7.take (n := kk) (by rw [sL_len']; show kk <= 4; omega)
 have htk : (sL wrd4).take kk = sL (wrd4.take kk) := by simp [sL, List.map_take]
 rw [htk] at S8
 obtain ⟨tv, htv⟩ : ∃ tv, tv = slV (.slice (some ⟨p, 0, none⟩) 4 4) 1 none (some (kk : Int)) := ⟨_, rfl⟩
 rw [<- htv] at S8
 simp -implicitDefEqProofs only [go_sem, zS, ↓reduceIte, Za, Zb, Zc, reduceCtorEq, kont_eq, zU, zV, Zf, Zg, Zh, Zi, Zd, Ze] at htv
 have K07 := K06.trans K7
 have k4 : (0 : Int) <= (kk : Int) /\ (kk : Int) <= 4 := by omega
 simp -implicitDefEqProofs only [go_sem, zS, ↓reduceIte, Za, Zb, Zc, reduceCtorEq, zU, zV, Zf, Zg, Zh, Zi, Zd, Ze, zF, hm5, <- htv, k4]
 have hw7 : ∀ w ∈ wrd4, w.length <= 100 := by decide
 have hwk : ∀ w ∈ wrd4.take kk, w.length <= 100 := fun w h => hw7 w (List.mem_of_mem_take h)
 have hwl : (wrd4.take kk).length <= 4 := by rw [List.length_take]; have : wrd4.length = 4 := rfl; omega
 refine ⟨by decide, (c.nof (wrd4.take kk) tv 9 H7 S8 ⟨by omega, fun i hi => ?_⟩).mono ?_⟩
 ·have := hwk _ (List.getElem_mem hi)
  rw [List.getD_eq_getElem?_getD, List.getElem?_eq_getElem hi, Option.getD_some]
  omega
 rintro x H8 ⟨K8, hx⟩
 have h00 := ofE_4 ⟨kk, hk5⟩
 have h00 : ofE 9 [] (wrd4.take kk) = 0 := h00
 rcases hx with ⟨h, _⟩ | ⟨_, t, G, rfl, hTab, hG⟩
 ·exact absurd h00 h
 have K08 := K07.trans K8
 have K68 := K7.trans K8
 have C58 := K68.bl C5' (by simp)
 have C78 := K68.bl C7' (by simp)
 have K38 := K36.trans K68
 have S88 := S8.keep K8 (by simp)
 have hF8 := hP0.keep0 K38
 have hM8 := hM0.keep0 K38
 have T8 := hT.keep K08
 have e00 : ((0 : Int) == 0) = true := rfl
 have hrl : (wrd4.take kk).length <= 1000 := by omega
 have O1 := prt_mk r hwk
 have O2 := prt_mk r (rl := []) fun w h => absurd h List.not_mem_nil
 have mo10 : ∀ x ∈ (mkF r).mo, x.1 < 10 := fun x hx => (mo_mk r x hx).2.1
 obtain ⟨T1, hT1⟩ : ∃ T1, T1 = prtF (mkF r) (wrd4.take kk) := ⟨_, rfl⟩
 obtain ⟨T2, hT2⟩ : ∃ T2, T2 = prtF (mkF r) [] := ⟨_, rfl⟩
 have P1 : ∀ X, Keep (fun _ => False) H8 X -> CallsM P (ι.f 450) #[.agg #[s, b, d, a, m], .pointer (some ⟨t, 0, none⟩)] X fun x X' => x = .string ⟨T1.toArray⟩ /\ Keep (fun _ => False) X X' := fun X K => by
  rw [hT1]
  exact c.prn (mkF r) (wrd4.take kk) _ _ X (T8.keep K) (hF8.keep0 K) O1 hrl (.inr ⟨t, G, rfl, hTab.keep K (by simp)⟩)
 have P2 : ∀ X, Keep (fun _ => False) H8 X -> CallsM P (ι.f 450) #[.agg #[s, b, d, a, m], .pointer none] X fun x X' => x = .string ⟨T2.toArray⟩ /\ Keep (fun _ => False) X X' := fun X K => by
  rw [hT2]
  exact c.prn (mkF r) [] _ _ X (T8.keep K) (hF8.keep0 K) O2 (by simp) (.inl ⟨rfl, rfl⟩)
 have R1 : ∀ X, Keep (fun _ => False) H8 X -> CallsM P (ι.f 451) #[.agg #[s', b', d', a', m'], tv] X fun x X' => x = .string ⟨T1.toArray⟩ /\ Keep (fun _ => False) X X' := fun X K => by
  rw [hT1]
  exact c.rpr (mkF r) (wrd4.take kk) _ _ X (hM8.keep0 K) (S88.keep K (by simp)) O1 hrl (ro_mk r) mo10
 have R2 : ∀ X, Keep (fun _ => False) H8 X -> CallsM P (ι.f 451) #[.agg #[s', b', d', a', m'], .slice none 0 0] X fun x X' => x = .string ⟨T2.toArray⟩ /\ Keep (fun _ => False) X X' := fun X K => by
  rw [hT2]
  exact c.rpr (mkF r) [] _ _ X (hM8.keep0 K) (SlR.nil _ _ _) O2 (by simp) (ro_mk r) mo10
 have d1 : ∀ x : List UInt8, ((⟨x.toArray⟩ : ByteArray) == ⟨x.toArray⟩) = true := fun x => by rw [ba_beq]; simp
 rw [kont_eq]
 simp -implicitDefEqProofs only [go_sem, zS, ↓reduceIte, Za, Zb, Zc, reduceCtorEq, zU, zV, Zf, Zg, Zh, Zi, Zd, Ze, zF]
 unfold c_fqR
 refine vc_drk (fun _ => False) ?_
 have l5 : ldNO H8 (.pointer (some ⟨b5, 0, none⟩)) 5 = some #[s, b, d, a, m] := C58.ldNO 5 rfl
 have l7 : ldNO H8 (.pointer (some ⟨b7, 0, none⟩)) 5 = some #[s', b', d', a', m'] := C78.ldNO 5 rfl
 simp -implicitDefEqProofs only [go_sem, zS, ↓reduceIte, Za, Zb, Zc, reduceCtorEq, zU, zV, Zf, Zg, Zh, Zi, Zd, Ze, zF, e00, l5, l7]
 refine (P1 H8 (Keep.refl _ _)).mono ?_
 rintro x X1 ⟨rfl, J1⟩
 rw [kontK_eq]
 refine ⟨J1, ?_⟩
 simp -implicitDefEqProofs only [go_sem, zS, ↓reduceIte, Za, Zb, Zc, reduceCtorEq, zU, zV, Zf, Zg, Zh, Zi, Zd, Ze, zF]
 refine (R1 X1 J1).mono ?_
 rintro x X2 ⟨rfl, J2⟩
 rw [kontK_eq]
 refine ⟨J2, ?_⟩
 have J12 := J1.trans J2
 have l5 : ldNO X2 (.pointer (some ⟨b5, 0, none⟩)) 5 = some #[s, b, d, a, m] := (J12.bl C58 (by simp)).ldNO 5 rfl
 have l7 : ldNO X2 (.pointer (some ⟨b7, 0, none⟩)) 5 = some #[s', b', d', a', m'] := (J12.bl C78 (by simp)).ldNO 5 rfl
 simp -implicitDefEqProofs only [go_sem, zS, ↓reduceIte, Za, Zb, Zc, reduceCtorEq, zU, zV, Zf, Zg, Zh, Zi, Zd, Ze, zF, d1, l5, l7]
 refine (P2 X2 J12).mono ?_
 rintro x X3 ⟨rfl, J3⟩
 rw [kontK_eq]
 refine ⟨J3, ?_⟩
 simp -implicitDefEqProofs only [go_sem, zS, ↓reduceIte, Za, Zb, Zc, reduceCtorEq, zU, zV, Zf, Zg, Zh, Zi, Zd, Ze, zF]
 refine (R2 X3 (J12.trans J3)).mono ?_
 rintro x X4 ⟨rfl, J4⟩
 rw [kontK_eq]
 refine ⟨J4, ?_⟩
 simp -implicitDefEqProofs only [go_sem, zS, ↓reduceIte, Za, Zb, Zc, reduceCtorEq, kont_eq, zU, zV, Zf, Zg, Zh, Zi, Zd, Ze, zF, d1]
 rw [hQ]
 exact ⟨rfl, K08.trans ((J12.trans J3).trans J4)⟩
end Go.Mg
