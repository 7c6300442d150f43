/- Several texts of ours in one. No conditions. -/
import Derived.Test.YtoclemmcphgikaaGreatDoorMgGT
import Derived.Test.YtoclemmcphgikaaGreatDoorMgGI
open Nat renaming reduceEqDiff→Za,reduceAdd→Zb,reduceMul→Zc
namespace Go.Mg
open Go Go.RowKit
set_option linter.all false
set_option maxRecDepth 100000
end Go.Mg
namespace Go.Mg
open Go Go.RowKit
set_option linter.all false
set_option maxRecDepth 100000
structure RnI (r:RawF) (H:Hp) (rb:Nat) (st:List Int):Prop where
 run:RunV H rb (mkF r) ((masksF r).map bt) st
 ok:okS (mkF r).st.length st
 ne:cmpV (mkF r) (masksF r) st≠[]
theorem RnI.keep0 {r:RawF} {H H':Hp} {rb:Nat} {st:List Int} (h:RnI r H rb st) (hk:Keep (fun _=>False) H H'):RnI r H' rb st:=⟨h.run.keep0 hk,h.ok,h.ne⟩
end Go.Mg
namespace Go.Mg
open Go Go.RowKit
set_option linter.all false
set_option maxRecDepth 100000
end Go.Mg
namespace Go.Mg
open Go Go.RowKit
set_option linter.all false
set_option maxRecDepth 100000
def c_esG (ι:Ids):S:=
 (.dr (kW 80 (.mv (.v 15)) (kW 81 (.mv (.v 1)) (kW 82 (.mv (.v 17)) (kW 83 (.is 2 (.t 81) (.t 82)) (kW 84 (.fa 0 (.t 83)) (kW 85 (.ld (.t 84)) (kW 86 (.dv .rem .u8 (.t 85) (.c (.int .u8 6))) (kW 87 (.ii .i64 (.t 86)) (kW 88 (.mv (.v 1)) (kW 89 (.mv (.v 17)) (kW 90 (.is 2 (.t 88) (.t 89)) (kW 91 (.fa 1 (.t 90)) (kW 92 (.ld (.t 91)) (kW 93 (.dv .rem .u8 (.t 92) (.c (.int .u8 6))) (kW 94 (.ii .i64 (.t 93)) (.wcons (.t 95) .none (.call (ι.f 388) [.t 80,.t 87,.t 94]) (kW 79 (.mv (.t 95)) (kW 96 (.ext (.t 79) 0) (kW 97 (.ext (.t 79) 1) (kX 18 (.mv (.t 96)) (kX 19 (.mv (.t 97)) .done))))) .wnil)))))))))))))))))
def c_esF (ι:Ids):S:=
 (.dr (kW 101 (.m (.ldn 5 (.v 9))) (kW 102 (.mv (.v 15)) (.wcons (.t 103) .none (.call (ι.f 382) [.t 102]) (.wcons (.t 104) .none (.call (ι.f 365) [.t 101,.t 103]) (kW 105 (.mv (.t 104)) (.px (.t 106) (.some (.t 105,true)) (.m (.ldn 5 (.v 9))) (.px (.t 107) (.some (.t 105,true)) (.mv (.v 15)) (.wcons (.t 108) (.some (.t 105,true)) (.call (ι.f 379) [.t 107]) (.wcons (.t 109) (.some (.t 105,true)) (.call (ι.f 364) [.t 106,.t 108]) (.px (.t 110) (.some (.t 105,true)) (.not (.t 109)) (kW 111 (.pick (.t 105) (.t 110) (.c (.bool false))) (kX 4 (.mv (.t 111)) .done))) .wnil) .wnil)))) .wnil) .wnil))))
def c_lestf (ι:Ids):S:=
 kY [kR 2 (ι.t 288) 0,kC 4 (.bool false)] (.seq (kY [.e (.t 20) (.call (ι.f 407) []),kV 21 (.not (.t 20))] (.ite (.v 21) (kY [kC 4 (.bool false)] .ret) .skip)) (kY [kM 23 7 2,.e (.t 24) (.call (ι.f 300) [.t 23]),kF 22 24,kQ 25 22 0,kQ 26 22 1,kQ 27 22 2,kQ 28 22 3,.e (.v 5) (.new (ι.t 296) #[kZ,kZ,kZ,kZ,kZ]),.e (.t 7) (.new (ι.t 289) #[kZ,kZ,kZ,kZ,kZ]),.e .no (.stn 5 (.v 5) (.t 25)),kB 6 26,.e .no (.stn 5 (.t 7) (.t 27)),kF 8 28] (kY [kM 30 5 5,kA 31 6,.e (.t 32) (.call (ι.f 376) [.t 30,.t 31,.c (kZ)]),kF 29 32,kQ 33 29 0,kQ 34 29 1,.e (.v 9) (.new (ι.t 358) #[kZ,kZ,kZ,kZ,kZ]),.e .no (.stn 5 (.v 9) (.t 33)),kB 10 34] (kY [kM 36 5 9,.e (.t 37) (.call (ι.f 373) [.t 36,.c (.int .i64 0)]),kF 35 37,kQ 38 35 0,kQ 39 35 1,kQ 40 35 2,kQ 41 35 3,.e (.t 12) (.new (ι.t 372) #[kZ]),kB 11 38,.e .no (.stn 1 (.t 12) (.t 39)),kB 13 40,kB 14 41] (kY [kM 43 5 5,kA 44 6,.e (.t 45) (.call (ι.f 391) [.t 43,.t 44]),kF 42 45,kQ 46 42 0,kQ 47 42 1,kB 15 46,kB 16 47] (.seq (kY [kA 48 10,kU 49 (.cm .neq .i64 (.t 48) (.c (.int .i64 0))),kF 50 49,kS 51 50 false 14,kT 52 50 false (.cm .neq .i64 (.t 51) (.c (.int .i64 0))),kU 53 (.pick (.t 50) (.c (.bool true)) (.t 52)),kF 54 53,kS 55 54 false 13,kS 56 54 false 16,kT 57 54 false (.cm .eql .i64 (.t 56) (.c (.int .i64 0))),kT 58 54 false (.eqb true (.t 55) (.t 57)),kV 59 (.pick (.t 54) (.c (.bool true)) (.t 58))] (.ite (.v 59) (kY [kC 4 (.bool false)] .ret) .skip)) (.seq (kY [kA 60 13,kV 61 (.not (.t 60))] (.ite (.v 61) (kY [kA 62 16,kU 63 (.cm .eql .i64 (.t 62) (.c (.int .i64 12))),kB 4 63] .ret) .skip)) (.seq (kY [kA 64 15,.e (.t 65) (.call (ι.f 382) [.t 64]),kA 66 11,.e (.t 67) (.call (ι.f 165) [.t 65,.t 66]),kV 68 (.not (.t 67))] (.ite (.v 68) (kY [kC 4 (.bool false)] .ret) .skip)) (.seq (kY [kC 17 (.int .i64 0)] (.blk 0 (.loop (.seq (kY [kA 69 17,kA 70 1,kL 71 70,kU 72 (.cm .lss .i64 (.t 69) (.t 71)),kF 73 72,kS 74 73 true 17,kT 75 73 true (.cm .lss .i64 (.t 74) (.c (.int .i64 12))),kV 76 (.pick (.t 73) (.t 75) (.c (.bool false)))] (.ite (.v 76) .skip (.exit 0))) (.seq (.blk 1 (.seq (c_esG ι) (kY [kA 98 19,kV 99 (.cm .eql .i64 (.t 98) (.c (.int .i64 0)))] (.ite (.v 99) (.reg [kA 100 18,kB 15 100]) .skip)))) (.reg [kA 77 17,kU 78 (.ar .add .i64 (.t 77) (.c (.int .i64 1))),kB 17 78])))))) (.seq (c_esF ι) .ret))))))))))
def r_lestf:List RV:=[.t 4]
structure LStC (P:Program) (ι:Ids):Prop where
 aw:EAwkSpec P ι (ι.f 407)
 mak:LMakfSpec P (ι.f 300)
 prob:SProbSpec P ι (ι.f 376)
 sol:SolveSpec P ι (ι.f 373)
 sta:EStartSpec P ι (ι.f 391)
 pln:EPlnSpec P ι (ι.f 382)
 gra:EGraSpec P ι (ι.f 388)
 stf:EStaffSpec P (ι.f 379)
 val:RValSpec P ι (ι.f 365)
 brk:RBrk2Spec P ι (ι.f 364)
 eqI:IEqSpec P (ι.f 165)
variable {P:Program} {ι:Ids} {k:FuncId} {r:RawF} {H:Hp}
theorem sta_mk (hs:EStartSpec P ι k) {v ev:Value} {vs:List Value} (hT:TabOk ι H) (hP:ProFl H v (mkF r)) (he:SlR H ev vs) (hv:SetsR H vs (masksF r)):
  CallsM P k #[v,ev] H fun x H'=>Keep (fun _=>False) H H'/\((solF (pbOf (mkF r) ((masksF r).map bt)) (zerS r)=none/\x=.tuple #[.pointer none,.int .i64 12])∨
    ((solF (pbOf (mkF r) ((masksF r).map bt)) (zerS r)).isSome=true/\∃rb,x=.tuple #[.pointer (some ⟨rb,0,none⟩),.int .i64 0]/\RnI r H' rb (zerS r))):=by
 have hnu:=nuF_lt r
 have hml:=mkF_len r
 have hel:((masksF r).map bt).length=(mkF r).st.length:=by rw[List.length_map,masksF_len,hml]
 obtain⟨e1,e2⟩:=hv.el
 refine(hs (mkF r) ((masksF r).map bt) vs v ev H hT hP he e1 (by omega) e2 fun _ _ _=>⟨goodP_mk r,?_,?_⟩).mono ?_
 ·rw[hel,hml];exact solB_mk r (zerS_okS r)
 ·have:=(mkF_good r).lim
  unfold tooL at this;omega
 rintro x H' ⟨K,hx⟩
 refine⟨K,?_⟩
 have f0:=okF_iff.1 (mkF_ok r)
 have ez:List.replicate ((masksF r).map bt).length (0:Int)=zerS r:=by rw[hel,hml];rfl
 rw[ez]at hx
 rcases hx with⟨h,_⟩|⟨_,h,_⟩|⟨_,_,⟨i,hi,hb⟩,_⟩|⟨_,_,_,h⟩
 ·exact absurd f0 h
 ·exact absurd hel h
 ·obtain⟨u,hu,hu2⟩:=hb
  rw[getD_map_bt]at hu
  have:=masksF_ok r i u hu
  omega
 ·rcases h with h|⟨h1,rb,h2,h3⟩
  ·exact .inl h
  ·refine .inr ⟨h1,rb,h2,h3,zerS_okS r,fun hc=>?_⟩
   rw[sol_cmp (zerS_okS r).1 (masksF_ok r),hc]at h1
   cases h1
theorem gra_any (hg:EGraSpec P ι k) {rb:Nat} {st:List Int} (hT:TabOk ι H) (hI:RnI r H rb st) (x1 x2:Nat):
  CallsM P k #[.pointer (some ⟨rb,0,none⟩),.int .i64 (x1:Int),.int .i64 (x2:Int)] H fun x H'=>∃(nx:Value) (e:Int),x=.tuple #[nx,.int .i64 e]/\Keep (fun _=>False) H H'/\((e≠0/\nx=.pointer none)\/(e=0/\∃rb' st',nx=.pointer (some ⟨rb',0,none⟩)/\RnI r H' rb' st')):=by
 have h5:=mkF_le5 r
 have hsl:=hI.ok.1
 have hel:=el_len r
 refine(hg.1 (mkF r) ((masksF r).map bt) st rb (x1:Int) (x2:Int) H hT hI.run (mkF_ok r) (by omega) (goodP_mk r) (solB_set r hI.ok)).mono ?_
 rintro x H' ⟨K,hx⟩
 obtain⟨e,he⟩:∃e,e=graE (mkF r) ((masksF r).map bt) st (x1:Int) (x2:Int):=⟨_,rfl⟩
 rw[<-he]at hx
 rcases hx with⟨h,rfl⟩|⟨h,rb',rfl,hR,hW⟩
 ·exact⟨_,e,rfl,K,.inl ⟨h,rfl⟩⟩
 ·rw[h]at he
  have h1:rAskF (mkF r) (masksF r) st (x1:Int) (x2:Int)=1:=by
   have:=he.symm
   unfold graE at this
   split at this
   ·omega
   ·split at this
    ·next h=>rw[<-ask_ref hI.ok (by omega) (masksF_ok r)];exact h
    ·split at this
     ·omega
     ·split at this<;>omega
  obtain⟨j,hj,j1,j2,j3,j4,j5,j6,j7,j8⟩:=ask_1 hI.ok (by omega) h1
  have:x1=j:=by omega
  subst this
  exact⟨_,0,rfl,K,.inr ⟨rfl,rb',_,rfl,hR,j8,j7⟩⟩
theorem agrB_zer (r:RawF) (t:List Int):agrB (zerS r) t=true:=by
 unfold agrB zerS
 rw[List.all_eq_true]
 intro k hk
 have hk:=List.mem_range.1 hk
 rw[List.length_replicate]at hk
 have:(List.replicate (nuF r) (0:Int)).getD k 0=0:=by
  rw[List.getD_eq_getElem?_getD,List.getElem?_replicate]
  split<;>rfl
 rw[this];rfl
theorem lestf_ok (hk:FnIs P k (c_lestf ι) r_lestf 2) (c:LStC P ι):LawE2Spec P ι k:=by
 intro r acts v w H hT hv hw
 obtain⟨Q,hQ⟩:∃Q:Value->Hp->Prop,Q=fun x H'=>x=.bool true/\Keep (fun _=>False) H H':=⟨_,rfl⟩
 rw[<-hQ]
 have hvr:=hv
 obtain⟨h0,ro,be,di,sa,mo,el,rfl,_⟩:=hv
 refine calls_of_vc hk (args:=[_,_]) (by simp) ?_
 unfold c_lestf r_lestf kA kB kF kC kL kM kQ kR kS kT kU kV kY kZ
 simp-implicitDefEqProofs only[go_sem,↓reduceIte,Za,Zb,Zc,reduceCtorEq]
 refine kont_new fun H1 b2 e1 z1 B1 K1=>?_
 have B1':Bl H1 b2 [.int .u8 (r.n:Int),ro,be,di,sa,mo,el]:=B1
 simp-implicitDefEqProofs only[go_sem,↓reduceIte,Za,Zb,Zc,reduceCtorEq]
 refine(c.aw H1 (hT.keep K1)).mono ?_
 rintro x H2 ⟨rfl,K2⟩
 have K02:=K1.trans K2
 have B12:=K2.bl B1' (by simp)
 rw[kont_eq]
 simp-implicitDefEqProofs only[go_sem,↓reduceIte,Za,Zb,Zc,reduceCtorEq,Bool.not_true,B12.ldNO 7 rfl]
 refine(c.mak r _ H2 (RawFV.keep0 hvr K02)).mono ?_
 rintro x H3 ⟨fv,lv,mv,uv,rfl,hP,hL,hM,hU,K3⟩
 have K03:=K02.trans K3
 have hP:=hP.fl
 have hP0:=hP
 have hM0:=hM
 obtain⟨s,b,d,a,m,ms,rfl,_⟩:=hP
 obtain⟨s',b',d',a',m',rfl,_⟩:=hM
 rw[kont_eq]
 simp-implicitDefEqProofs only[go_sem,↓reduceIte,Za,Zb,Zc,reduceCtorEq]
 refine kont_new fun H4 b5 e4 z4 B4 K4=>?_
 have B4':Bl H4 b5 [.slice none 0 0,.slice none 0 0,.slice none 0 0,.slice none 0 0,.slice none 0 0]:=B4
 simp-implicitDefEqProofs only[go_sem,↓reduceIte,Za,Zb,Zc,reduceCtorEq]
 refine kont_new fun H5 b7 e5 z5 B5 K5=>?_
 have B5':Bl H5 b7 [.slice none 0 0,.slice none 0 0,.slice none 0 0,.slice none 0 0,.slice none 0 0]:=B5
 have s4:=K4.size
 have s5:=K5.size
 have B45:=K5.bl B4' (by simp)
 have t4:=B45.okNA (o:=0) (n:=5) (by simp)
 have C5:=B45.stNA 0 [s,b,d,a,m]
 have L1:Keep (fun q=>q=b5) H5 (stNA H5 ⟨b5,0,none⟩ [s,b,d,a,m]):=(Keep.refl _ _).stNA _ (.inl rfl)
 have D7:=L1.bl B5' (by omega)
 have t7:=D7.okNA (o:=0) (n:=5) (by simp)
 have L2:Keep (fun q=>q=b7) (stNA H5 ⟨b5,0,none⟩ [s,b,d,a,m]) (stNA (stNA H5 ⟨b5,0,none⟩ [s,b,d,a,m]) ⟨b7,0,none⟩ [s',b',d',a',m']):=(Keep.refl _ _).stNA _ (.inl rfl)
 have D5:=L2.bl C5 (by omega)
 have ha:all1 #[s,b,d,a,m]:=hP0.all1
 have ha':all1 #[s',b',d',a',m']:=hM0.all1
 simp-implicitDefEqProofs only[go_sem,↓reduceIte,Za,Zb,Zc,reduceCtorEq,t4,t7]
 refine⟨ha,?_⟩
 rw[kont_eq]
 simp-implicitDefEqProofs only[go_sem,↓reduceIte,Za,Zb,Zc,reduceCtorEq,t7]
 refine⟨ha',?_⟩
 generalize stNA (stNA H5 ⟨b5,0,none⟩ [s,b,d,a,m]) ⟨b7,0,none⟩ [s',b',d',a',m']=H6 at L2 D5⊢
 have K36:Keep (fun _=>False) H3 H6:=((K4.trans K5).trans' L1 fun q hq h=>by omega).trans' L2 fun q hq h=>by omega
 have K06:=K03.trans K36
 have C5':Bl H6 b5 [s,b,d,a,m]:=D5
 have p6:=hP0.keep0 K36
 obtain⟨vs,OL,RL,-,-⟩:=hL
 have RL6:=RL.keep0 K36
 have OL6:=OL.sl.keep K36 (by simp)
 obtain⟨g1,g2⟩:=RL6.el
 have hnu:=nuF_lt r
 have hml:=mkF_len r
 have hel:=el_len r
 have hU0:okU ((masksF r).map bt).length (fixF ((masksF r).map bt).length []):=by
  unfold fixF
  rw[if_pos rfl,hel,hml]
  have:=(zerS_okS r).U
  rw[hml]at this
  exact this
 have hfx:fixF ((masksF r).map bt).length []=zerS r:=by unfold fixF;rw[if_pos rfl,hel,hml];rfl
 rw[kont_eq]
 simp-implicitDefEqProofs only[go_sem,↓reduceIte,Za,Zb,Zc,reduceCtorEq,C5'.ldNO 5 rfl]
 refine(c.prob (mkF r) ((masksF r).map bt) vs [] _ lv _ H6 H6 (Keep.refl _ _) p6 OL6 g1 hel.symm g2 (SlR.nil _ _ _) (.inl rfl) (goodP_mk r) hU0).mono ?_
 rintro x H7 ⟨pv,rfl,hPb,K7⟩
 rw[hfx]at hPb
 have hP7:=hPb H7 (fun _=>False) (Keep.refl _ _) (fun q h=>h.elim)
 have hP70:=hP7
 obtain⟨w1,w2,w3,w4,w5,pvs,pms,rfl,hpr⟩:=hP7
 have aw:([w1,w2,w3,w4,w5].all fun v=>v.oneCell')=true:=by
  simp only[List.all_cons,List.all_nil,Bool.and_true,Bool.and_eq_true]
  exact⟨all1_sl hpr.e.isSl,all1_sl hpr.d.isSl,all1_sl hpr.s.isSl,all1_sl hpr.m.isSl,all1_sl hpr.f.isSl⟩
 have K07:=K06.trans K7
 rw[kont_eq]
 simp-implicitDefEqProofs only[go_sem,↓reduceIte,Za,Zb,Zc,reduceCtorEq]
 refine kont_newst [w1,w2,w3,w4,w5] (by rfl) rfl rfl aw fun H8 b9 e8 z8 B8 K8=>?_
 have hP8:PrbV H8 (.agg #[w1,w2,w3,w4,w5]) (pbOf (mkF r) ((masksF r).map bt)) (zerS r):=hP70.keep0 K8
 have K08:=K07.trans K8
 have hSB:=solB_mk r (zerS_okS r)
 obtain⟨wd,hwd,hwd1,hwd2⟩:=hSB.w
 simp-implicitDefEqProofs only[go_sem,↓reduceIte,Za,Zb,Zc,reduceCtorEq,B8.ldNO 5 rfl]
 refine(c.sol (pbOf (mkF r) ((masksF r).map bt)) (zerS r) wd _ H8 (hT.keep K08) hP8 (goodP_mk r) hSB.u hwd hwd1 hwd2).mono ?_
 rintro x H9 ⟨sv,rv,hrv,rfl,K9,hsv⟩
 have K09:=K08.trans K9
 rw[kont_eq]
 simp-implicitDefEqProofs only[go_sem,↓reduceIte,Za,Zb,Zc,reduceCtorEq]
 refine kont_new fun H10 b12 e10 z10 B10 K10=>?_
 have B10':Bl H10 b12 [.slice none 0 0]:=B10
 have t12:=B10'.okNA (o:=0) (n:=1) (by simp)
 have arv:all1 #[rv]:=all1_of (by simp only[List.all_cons,List.all_nil,all1_sl hrv];rfl)
 have KS:Keep (fun q=>q=b12) H10 (stNA H10 ⟨b12,0,none⟩ [rv]):=(Keep.refl _ _).stNA _ (.inl rfl)
 simp-implicitDefEqProofs only[go_sem,↓reduceIte,Za,Zb,Zc,reduceCtorEq,t12]
 refine⟨arv,?_⟩
 rw[kont_eq]
 generalize stNA H10 ⟨b12,0,none⟩ [rv]=H11 at KS⊢
 have K911:Keep (fun _=>False) H9 H11:=K10.trans' KS fun q hq e=>by omega
 have K011:=K09.trans K911
 have K611:Keep (fun _=>False) H6 H11:=((K7.trans K8).trans K9).trans K911
 have B911:=(K9.trans K911).bl B8 (by simp)
 have C511:=K611.bl C5' (by simp)
 simp-implicitDefEqProofs only[go_sem,↓reduceIte,Za,Zb,Zc,reduceCtorEq,C511.ldNO 5 rfl]
 refine(sta_mk c.sta (r:=r) (hT.keep K011) (p6.keep0 K611) (OL6.keep K611 (by simp)) (RL6.keep0 K611)).mono ?_
 rintro x H12 ⟨K12,hx⟩
 have K012:=K011.trans K12
 have hP12:PrbV H12 (.agg #[w1,w2,w3,w4,w5]) (pbOf (mkF r) ((masksF r).map bt)) (zerS r):=((hP8.keep0 K9).keep0 K911).keep0 K12
 have B912:=K12.bl B911 (by simp)
 have e00:((0:Int)!=0)=false:=rfl
 have e01:((0:Int)==0)=true:=rfl
 have e12:((12:Int)==12)=true:=rfl
 have e120:((12:Int)==0)=false:=rfl
 rw[kont_eq]
 rcases hx with⟨hs0,rfl⟩|⟨hs1,rb,rfl,hI⟩
 ·have hs0':(solF (pbOf (mkF r) ((masksF r).map bt)) (zerS r)).isSome=false:=by rw[hs0];rfl
  simp-implicitDefEqProofs only[go_sem,↓reduceIte,Za,Zb,Zc,reduceCtorEq,kont_eq,hs0',e00,e120,e12,bne_self_eq_false,Bool.not_false]
  rw[hQ]
  exact⟨rfl,K012⟩
 obtain⟨t,ht⟩:∃t,solF (pbOf (mkF r) ((masksF r).map bt)) (zerS r)=some t:=Option.isSome_iff_exists.1 hs1
 rw[ht]at hsv
 have hsv:SlR H9 sv (iL t):=hsv
 have htm:∀{st t':List Int},st.length=(mkF r).st.length->solF (pbOf (mkF r) ((masksF r).map bt)) st=some t'->t'∈cmpV (mkF r) (masksF r) st:=fun{st t'} hl h=>by
  rw[sol_cmp hl (masksF_ok r)]at h
  exact List.mem_of_mem_head? (by rw[h];rfl)
 have h5:=mkF_le5 r
 simp-implicitDefEqProofs only[go_sem,↓reduceIte,Za,Zb,Zc,reduceCtorEq,hs1,e00,e01,bne_self_eq_false,Bool.not_true]
 refine(c.pln.1 (mkF r) ((masksF r).map bt) (zerS r) rb H12 (hT.keep K012) hI.run (goodP_mk r) hSB).mono ?_
 rintro y H13 ⟨K13,hy⟩
 rw[ht]at hy
 have hy:SlR H13 y (iL t):=hy
 have htl:t.length=(mkF r).st.length:=(mem_cmp.1 (htm (zerS_okS r).1 ht)).1.1
 have K013:=K012.trans K13
 rw[kont_eq]
 simp-implicitDefEqProofs only[go_sem,↓reduceIte,Za,Zb,Zc,reduceCtorEq]
 refine(c.eqI t t y sv H13 hy (((hsv.keep K911 (by simp)).keep K12 (by simp)).keep K13 (by simp)) (by omega)).mono ?_
 rintro y2 H14 ⟨rfl,rfl⟩
 have hd:decide (t=t)=true:=decide_eq_true rfl
 rw[kont_eq]
 simp-implicitDefEqProofs only[go_sem,↓reduceIte,Za,Zb,Zc,reduceCtorEq,hd,Bool.not_true]
 have B914:=K13.bl B912 (by simp)
 have hP14:=hP12.keep0 K13
 refine vc_loop [76,18,19,99,15,17] rfl (fun n f A=>∃(i rb:Nat) (st:List Int),n+i=acts.length/\f 17=.int .i64 (i:Int)/\f 15=.pointer (some ⟨rb,0,none⟩)/\RnI r A rb st/\Keep (fun _=>False) H14 A) acts.length ⟨0,rb,zerS r,by omega,by simp-implicitDefEqProofs only[go_sem,↓reduceIte,Za,Zb,Zc,reduceCtorEq,kont_eq],by simp-implicitDefEqProofs only[go_sem,↓reduceIte,Za,Zb,Zc,reduceCtorEq,kont_eq],hI.keep0 K13,Keep.refl _ _⟩ ?_
 rintro n f A ⟨i,rb',st,hni,f17,f15,hIA,KA⟩
 simp-implicitDefEqProofs only[go_sem,↓reduceIte,Za,Zb,Zc,reduceCtorEq,kont_eq]at f17 f15
 have K0A:=K013.trans KA
 have hsl:=hIA.ok.1
 have out:∀(g:Fr),g 15=.pointer (some ⟨rb',0,none⟩)->g 9=.pointer (some ⟨b9,0,none⟩)->vc P (c_esF ι) (thenQ (vc P .ret (retQ [.t 4] Q)) (retQ [.t 4] Q)) g A:=fun g g15 g9=>by
  have hPA:=hP14.keep0 KA
  have BA:=KA.bl B914 (by simp)
  obtain⟨t2,ht2⟩:∃t2,solF (pbOf (mkF r) ((masksF r).map bt)) st=some t2:=by
   rw[sol_cmp hsl (masksF_ok r)]
   cases h:cmpV (mkF r) (masksF r) st with
   |nil=>exact absurd h hIA.ne
   |cons a l=>exact⟨a,rfl⟩
  have ht2m:=htm hsl ht2
  obtain⟨⟨q1,q2⟩,q3,q4⟩:=mem_cmp.1 ht2m
  rw[valB_all q2]at q3
  have hpl:(pbOf (mkF r) ((masksF r).map bt)).el.length=(mkF r).st.length:=by rw[<-hel];rfl
  have hU2:okU (pbOf (mkF r) ((masksF r).map bt)).el.length t2:=by rw[hpl];exact⟨q1,fun u hu=>by have:=q2 u hu;omega⟩
  have hUs:okU (pbOf (mkF r) ((masksF r).map bt)).el.length st:=by rw[hpl];exact hIA.ok.U
  have hUz:okU (pbOf (mkF r) ((masksF r).map bt)).el.length (zerS r):=by rw[hpl];exact(zerS_okS r).U
  have hb:brkB (pbOf (mkF r) ((masksF r).map bt)) st=false:=by
   cases h:brkB (pbOf (mkF r) ((masksF r).map bt)) st with
   |false=>rfl
   |true=>
    have:=brk_mono (t:=t2) (by omega) q4 h
    unfold allB at q3
    rw[this]at q3
    simp at q3
  unfold c_esF kW kX
  refine vc_drk (fun _=>False) ?_
  simp-implicitDefEqProofs only[go_sem,↓reduceIte,Za,Zb,Zc,reduceCtorEq,kont_eq,g15,g9,BA.ldNO 5 rfl]
  refine(c.pln.1 (mkF r) ((masksF r).map bt) st rb' A (hT.keep K0A) hIA.run (goodP_mk r) (solB_mk r hIA.ok)).mono ?_
  rintro y3 X1 ⟨J1,hy3⟩
  rw[ht2]at hy3
  have hy3:SlR X1 y3 (iL t2):=hy3
  rw[kontK_eq]
  refine⟨J1,?_⟩
  simp-implicitDefEqProofs only[go_sem,↓reduceIte,Za,Zb,Zc,reduceCtorEq,kont_eq]
  refine(c.val (pbOf (mkF r) ((masksF r).map bt)) (zerS r) t2 _ y3 X1 (hT.keep (K0A.trans J1)) (hPA.keep0 J1) (goodP_mk r) hUz hU2 hy3).mono ?_
  rintro y4 X2 ⟨rfl,J2⟩
  rw[kontK_eq]
  refine⟨J2,?_⟩
  have hv1:(allB (pbOf (mkF r) ((masksF r).map bt)) t2&&agrB (zerS r) t2)=true:=by rw[q3,agrB_zer];rfl
  have B2:=(J1.trans J2).bl BA (by simp)
  simp-implicitDefEqProofs only[go_sem,↓reduceIte,Za,Zb,Zc,reduceCtorEq,kont_eq,hv1,g9,g15,B2.ldNO 5 rfl]
  refine(c.stf.1 _ _ st rb' X2 (hIA.run.keep0 (J1.trans J2)) (by omega)).mono ?_
  rintro y5 X3 ⟨O3,o3,J3⟩
  rw[kontK_eq]
  refine⟨J3,?_⟩
  simp-implicitDefEqProofs only[go_sem,↓reduceIte,Za,Zb,Zc,reduceCtorEq,kont_eq]
  refine(c.brk (pbOf (mkF r) ((masksF r).map bt)) (zerS r) st _ y5 X3 (hT.keep (K0A.trans ((J1.trans J2).trans J3))) (hPA.keep0 ((J1.trans J2).trans J3)) (goodP_mk r) hUz hUs O3.sl).mono ?_
  rintro y6 X4 ⟨rfl,J4⟩
  rw[kontK_eq]
  refine⟨J4,?_⟩
  simp-implicitDefEqProofs only[go_sem,↓reduceIte,Za,Zb,Zc,reduceCtorEq,kont_eq,hb,Bool.not_false]
  rw[hQ]
  exact⟨rfl,K0A.trans (((J1.trans J2).trans J3).trans J4)⟩
 by_cases hn0:n=0
 ·have d1:decide ((i:Int)<(acts.length:Int))=false:=decide_eq_false (by omega)
  simp-implicitDefEqProofs only[go_sem,↓reduceIte,Za,Zb,Zc,reduceCtorEq,f17,hw.isSl,hw.len,d1]
  exact out _ (by simp-implicitDefEqProofs only[go_sem,↓reduceIte,Za,Zb,Zc,reduceCtorEq,kont_eq,f15]) (by rfl)
 have d1:decide ((i:Int)<(acts.length:Int))=true:=decide_eq_true (by omega)
 by_cases h12:(i:Int)<12
 case neg=>
  have d2:decide ((i:Int)<12)=false:=decide_eq_false h12
  simp-implicitDefEqProofs only[go_sem,↓reduceIte,Za,Zb,Zc,reduceCtorEq,f17,hw.isSl,hw.len,d1,d2]
  exact out _ (by simp-implicitDefEqProofs only[go_sem,↓reduceIte,Za,Zb,Zc,reduceCtorEq,kont_eq,f15]) (by rfl)
 have d2:decide ((i:Int)<12)=true:=decide_eq_true h12
 have hi:i<acts.length:=by omega
 obtain⟨pb,po,pc,hwe,-,hld⟩:=(hw.keep0 K0A).elem enc8_len hi
 obtain⟨x,hx⟩:∃x,x=acts[i]:=⟨_,rfl⟩
 rw[<-hx]at hld
 have hld':ldNA A ⟨pb,po+i*2,none⟩ 2=some [Value.int .u8 x.1.toNat,.int .u8 x.2.toNat].toArray:=hld
 have hc0:=ldNA_cell hld' (j:=0) (by omega)
 have hc1:=ldNA_cell hld' (j:=1) (by omega)
 have hc0:cell A ⟨pb,po+i*2,none⟩=some (.int .u8 x.1.toNat):=hc0
 have hc1:cell A ⟨pb,po+i*2+1,none⟩=some (.int .u8 x.2.toNat):=hc1
 obtain⟨x1,hx1⟩:∃y:Nat,y=x.1.toNat % 6:=⟨_,rfl⟩
 obtain⟨x2,hx2⟩:∃y:Nat,y=x.2.toNat % 6:=⟨_,rfl⟩
 have m1:((x.1.toNat:Int)).tmod 6=(x1:Int):=by rw[hx1];exact tmod_nat _ _
 have m2:((x.2.toNat:Int)).tmod 6=(x2:Int):=by rw[hx2];exact tmod_nat _ _
 have y1:IntKind.i64.wrap (x1:Int)=(x1:Int):=IntWalk.i64_in _ (by omega)
 have y2':IntKind.i64.wrap (x2:Int)=(x2:Int):=IntWalk.i64_in _ (by omega)
 have wi:IntKind.i64.wrap ((i:Int)+1)=(i:Int)+1:=IntWalk.i64_in _ (by omega)
 simp-implicitDefEqProofs only[go_sem,↓reduceIte,Za,Zb,Zc,reduceCtorEq,f17,f15,hw.isSl,hw.len,d1,d2]
 unfold c_esG kW kX
 refine vc_drk (fun _=>False) ?_
 simp-implicitDefEqProofs only[go_sem,↓reduceIte,Za,Zb,Zc,reduceCtorEq,kont_eq,f17,f15,hwe,tn_cast,hc0,hc1,Nat.add_zero,m1,m2,y1,y2']
 refine⟨by omega,by decide,by omega,by decide,(gra_any c.gra (hT.keep K0A) hIA x1 x2).mono ?_⟩
 rintro y3 X ⟨nx,e,rfl,KX,hcase⟩
 rw[kontK_eq]
 refine⟨KX,?_⟩
 rcases hcase with⟨he,rfl⟩|⟨rfl,rbn,stn,rfl,hIn⟩
 ·have e0:(e==0)=false:=by simpa using he
  simp-implicitDefEqProofs only[go_sem,↓reduceIte,Za,Zb,Zc,reduceCtorEq,kont_eq,e0,f17,f15,wi]
  exact⟨n -1,by omega,i+1,rb',st,by omega,rfl,rfl,hIA.keep0 KX,KA.trans KX⟩
 ·simp-implicitDefEqProofs only[go_sem,↓reduceIte,Za,Zb,Zc,reduceCtorEq,kont_eq,e01,f17,wi]
  exact⟨n -1,by omega,i+1,rbn,stn,by omega,rfl,rfl,hIn,KA.trans KX⟩
end Go.Mg
