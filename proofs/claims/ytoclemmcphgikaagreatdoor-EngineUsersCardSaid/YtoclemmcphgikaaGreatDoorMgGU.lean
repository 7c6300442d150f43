/- law 43: EngineUsers. -/
import Derived.Test.YtoclemmcphgikaaGreatDoorMgGT
import Derived.Test.YtoclemmcphgikaaGreatDoorMgGI
open Nat renaming reduceEqDiff→Za,reduceAdd→Zb,reduceMul→Zc,reduceLeDiff→Zd,reduceLT→Ze
open Int renaming reduceBEq→Zf,reduceBNe→Zg,reduceLE→Zh,reduceLT→Zi
namespace Go.Mg
open Go Go.RowKit
set_option linter.all false
set_option maxRecDepth 100000
def c_euP (ι:Ids):S:=
 (.dr (kW 50 (.mv (.v 5)) (kW 52 (.m (.ldn 7 (.v 6))) (.wcons (.t 51) .none (.call (ι.f 382) [.t 50]) (.wcons (.t 53) .none (.call (ι.f 397) [.t 52]) (kW 54 (.is 1 (.t 53) (.c (.int .i64 0))) (kW 55 (.ld (.t 54)) (.wcons (.t 56) .none (.call (ι.f 165) [.t 51,.t 55]) (kX 4 (.mv (.t 56)) .done) .wnil))) .wnil) .wnil))))
def c_leusr (ι:Ids):S:=
 kY [kR 2 (ι.t 288) 0,kC 4 (.bool false)] (.seq (kY [.e (.t 11) (.call (ι.f 407) []),kV 12 (.not (.t 11))] (.ite (.v 12) (kY [kC 4 (.bool false)] .ret) .skip)) (kY [kM 14 7 2,kA 15 1,.e (.t 16) (.call (ι.f 405) [.t 14,.t 15]),kF 13 16,kQ 17 13 0,kQ 18 13 1,kQ 19 13 2,.e (.v 6) (.new (ι.t 396) #[kZ,kZ,kZ,kZ,kZ,kZ,kZ]),kB 5 17,.e .no (.stn 7 (.v 6) (.t 18)),kB 7 19] (.seq (kY [kA 20 7,kU 21 (.not (.t 20)),kF 22 21,kS 23 22 false 5,kT 24 22 false (.m (.eqn .ptr false (.t 23))),kV 25 (.pick (.t 22) (.c (.bool true)) (.t 24))] (.ite (.v 25) (kY [kA 26 7,kB 4 26] .ret) .skip)) (.seq (kY [kC 27 (.int .i64 0)] (.blk 0 (.loop (kY [kV 28 (.cm .lss .i64 (.v 27) (.c (.int .i64 6)))] (.seq (.ite (.v 28) .skip (.exit 0)) (.seq (.blk 1 (kY [kA 29 27,kB 8 29] (kY [kC 9 (kZ)] (.seq (kY [kC 10 (.int .i64 1)] (.blk 2 (.loop (.seq (kY [kA 30 10,kV 31 (.cm .lss .i64 (.t 30) (.c (.int .i64 6)))] (.ite (.v 31) .skip (.exit 2))) (.seq (.blk 3 (kY [kM 34 7 6,kA 35 8,kA 36 10,.e (.t 37) (.call (ι.f 400) [.t 34,.t 35,.t 36]),kV 38 (.cm .eql .i64 (.t 37) (.c (.int .i64 1)))] (.ite (.v 38) (.reg [kA 39 9,kA 40 10,.e (.t 41) (.bldF (ι.t 26) 1 1 [.t 40]),.e (.t 42) (.app false (ι.t 26) 1 8 #[.int .i64 0] (.t 39) (.t 41)),kB 9 42]) .skip))) (.reg [kA 32 10,kU 33 (.ar .add .i64 (.t 32) (.c (.int .i64 1))),kB 10 33])))))) (kY [kA 43 5,kA 44 8,.e (.t 45) (.call (ι.f 393) [.t 43,.t 44]),kA 46 9,.e (.t 47) (.call (ι.f 165) [.t 45,.t 46]),kV 48 (.not (.t 47))] (.ite (.v 48) (kY [kC 4 (.bool false)] .ret) .skip)))))) (.reg [ke 49 27,kB 27 49]))))))) (.seq (c_euP ι) .ret)))))
def r_leusr:List RV:=[.t 4]
def EUsrXSpec (P:Program) (k:FuncId):Prop:=(∀(F:FlN) (el:List (Nat->Bool)) (st:List Int) (rb step:Nat) (H:Hp),RunV H rb F el st->st.length<=step->step<=1000->CallsM P k #[.pointer (some ⟨rb,0,none⟩),.int .i64 (step:Int)] H fun r H'=>r=.slice none 0 0/\Keep (fun _=>False) H H')∧
 ∀(step:Int) H,CallsM P k #[.pointer none,.int .i64 step] H fun r H'=>r=.slice none 0 0/\Keep (fun _=>False) H H'
variable {P:Program} {ι:Ids} {k:FuncId} {F:FlN} {ms:List UInt64} {st:List Int}
theorem eusrX_ok (hk:FnIsR P k (c_eusr ι) r_eusr 2 41):EUsrXSpec P k:=by
 refine⟨fun F el st rb step H hR hl hl2=>?_,fun step H=>?_⟩
 ·obtain⟨s,b,d,a,m,ev,sv,vs,B,hF,he,hel,hfl,hes,hsv⟩:=hR
  have lsv:lenV sv=st.length:=by rw[hsv.len,iL_len]
  refine calls_of_vcR hk (args:=[_,_]) (by simp) ?_
  unfold c_eusr r_eusr kB kF kC kD kI kN kR kT kU kV kY kZ
  simp only[go_sem,Za,Zb]
  refine kont_new fun H1 b2 e1 z1 B1 K1=>?_
  have B1':Bl H1 b2 [.pointer (some ⟨rb,0,none⟩)]:=B1
  simp only[go_sem,Za,Zb]
  refine kont_new fun H2 b3 e2 z2 B2 K2=>?_
  have B2':Bl H2 b3 [.int .i64 (step:Int)]:=B2
  have B12:=K2.bl B1' (by simp)
  have K02:=K1.trans K2
  have BR:=K02.bl B (by simp)
  have c2:cell H2 ⟨b2,0,none⟩=some (.pointer (some ⟨rb,0,none⟩)):=by rw[B12.cell];rfl
  have c3:cell H2 ⟨b3,0,none⟩=some (.int .i64 (step:Int)):=by rw[B2'.cell];rfl
  have c6:cell H2 ⟨rb,6,none⟩=some sv:=by rw[BR.cell];rfl
  have d1:decide ((step:Int)<0)=false:=decide_eq_false (by omega)
  have d2:decide ((step:Int)≥(st.length:Int))=true:=decide_eq_true (by omega)
  simp only[go_sem,Za,Zb,c2,c3,c6,d1,d2,hsv.isSl,lsv]
  exact⟨List.nodup_nil,fun H' hs hk=>⟨by have:=K02.size;omega,fun q hq hn=>by rw[hk];exact K02.at_ q hq hn⟩⟩
 ·refine calls_of_vcR hk (args:=[_,_]) (by simp) ?_
  unfold c_eusr r_eusr kB kF kC kD kI kN kR kT kU kV kY kZ
  simp only[go_sem,Za,Zb]
  refine kont_new fun H1 b2 e1 z1 B1 K1=>?_
  have B1':Bl H1 b2 [.pointer none]:=B1
  simp only[go_sem,Za,Zb]
  refine kont_new fun H2 b3 e2 z2 B2 K2=>?_
  have B12:=K2.bl B1' (by simp)
  have c2:cell H2 ⟨b2,0,none⟩=some (.pointer none):=by rw[B12.cell];rfl
  simp only[go_sem,Za,Zb,c2]
  have K02:=K1.trans K2
  exact⟨List.nodup_nil,fun H' hs hk=>⟨by have:=K02.size;omega,fun q hq hn=>by rw[hk];exact K02.at_ q hq hn⟩⟩
def wanL (F:FlN) (ms:List UInt64) (st:List Int) (k m:Nat):List Nat:=(List.range m).filter fun u=>decide (rAskF F ms st (k:Int) ((u:Nat):Int)=1)
theorem wanL_succ (F:FlN) (ms:List UInt64) (st:List Int) (k m:Nat):wanL F ms st k (m+1)=wanL F ms st k m++if rAskF F ms st (k:Int) ((m:Nat):Int)=1 then[m]else[]:=by
 unfold wanL
 rw[List.range_succ,List.filter_append]
 simp only[List.filter_cons,List.filter_nil,decide_eq_true_eq]
theorem wanL_len (F:FlN) (ms:List UInt64) (st:List Int) (k m:Nat):(wanL F ms st k m).length<=m:=by
 unfold wanL
 have:=List.length_filter_le (fun u:Nat=>decide (rAskF F ms st (k:Int) ((u:Nat):Int)=1)) (List.range m)
 rwa [List.length_range]at this
theorem rAsk_1 {k:Nat} {u:Int} (h:rAskF F ms st (k:Int) u=1):k<F.st.length/\1<=u/\u<=4/\bt (ms.getD k 0) u.toNat=true:=by
 unfold rAskF at h
 split at h
 ·next h1=>
  split at h
  ·omega
  ·next h2=>
   rw[Int.toNat_natCast]at h2
   refine⟨(mem_rdyL.1 (mem_nI.1 h1)).1,by omega,by omega,?_⟩
   cases hb:bt (ms.getD k 0) u.toNat with
   |true=>rfl
   |false=>exact absurd (.inr (.inr hb)) h2
 ·omega
theorem wan_usr (hS:okS F.st.length st) (hn:F.st.length<=10) (hm:MsOk ms) (k:Nat):usrL F (ms.map bt) st k 4096=wanL F ms st k 6:=by
 unfold usrL wanL
 rw[getD_map_bt,List.take_of_length_le (by unfold mems;exact Nat.le_trans (List.length_filter_le _ _) (by simp)),mems_4 fun u hu=>(hm k u hu).2,List.filter_filter]
 have e:List.range 6=List.range 5++[5]:=rfl
 rw[e,List.filter_append,filter_none (l:=[5]) fun x hx=>?_,List.append_nil]
 ·refine List.filter_congr fun u hu=>?_
  rw[ask_ref hS hn hm]
  by_cases h:rAskF F ms st (k:Int) ((u:Nat):Int)=1
  ·have:=(rAsk_1 h).2.2.2
   rw[Int.toNat_natCast]at this
   rw[this,decide_eq_true h];rfl
  ·rw[decide_eq_false h];rfl
 ·simp only[List.mem_singleton]at hx
  subst hx
  refine decide_eq_false fun h=>?_
  have:=(rAsk_1 h).2.2.1
  omega
theorem wan_none {k:Nat} (h:F.st.length<=k) (m:Nat):wanL F ms st k m=[]:=by
 unfold wanL
 refine filter_none fun u _=>decide_eq_false fun h'=>?_
 have:=(rAsk_1 h').1
 omega
structure LUsC (P:Program) (ι:Ids):Prop where
 aw:EAwkSpec P ι (ι.f 407)
 play:LPlaySpec P ι (ι.f 405)
 rask:RAskSpec P (ι.f 400)
 rcmp:RCmpSpec P (ι.f 397)
 usr:EUsrsSpec P ι (ι.f 393)
 usx:EUsrXSpec P (ι.f 393)
 pln:EPlnSpec P ι (ι.f 382)
 eqI:IEqSpec P (ι.f 165)
theorem leusr_ok (hk:FnIs P k (c_leusr ι) r_leusr 2) (c:LUsC P ι):LawE2Spec P ι k:=by
 intro r acts v w H hT hv hw
 obtain⟨Q,hQ⟩:∃Q:Value->Hp->Prop,Q=fun x H'=>x=.bool true/\Keep (fun _=>False) H H':=⟨_,rfl⟩
 rw[<-hQ]
 have hvr:=hv
 obtain⟨h0,ro,be,di,sa,mo,el,rfl,_⟩:=hv
 refine calls_of_vc hk (args:=[_,_]) (by simp) ?_
 unfold c_leusr r_leusr kA kB kF kC ke kM kQ kR kS kT kU kV kY kZ
 simp-implicitDefEqProofs only[go_sem,↓reduceIte,Za,Zb,Zc,reduceCtorEq,Zf,Zg,Zh,Zi,Zd,Ze]
 refine kont_new fun H1 b2 e1 z1 B1 K1=>?_
 have B1':Bl H1 b2 [.int .u8 (r.n:Int),ro,be,di,sa,mo,el]:=B1
 simp-implicitDefEqProofs only[go_sem,↓reduceIte,Za,Zb,Zc,reduceCtorEq,Zf,Zg,Zh,Zi,Zd,Ze]
 refine(c.aw H1 (hT.keep K1)).mono ?_
 rintro x H2 ⟨rfl,K2⟩
 have K02:=K1.trans K2
 have B12:=K2.bl B1' (by simp)
 rw[kont_eq]
 simp-implicitDefEqProofs only[go_sem,↓reduceIte,Za,Zb,Zc,reduceCtorEq,Zf,Zg,Zh,Zi,Zd,Ze,Bool.not_true,B12.ldNO 7 rfl]
 refine(c.play r acts _ w H2 (hT.keep K02) (RawFV.keep0 hvr K02) (hw.keep0 K02)).mono ?_
 rintro x H3 ⟨rp,sv,rfl,K3,hc⟩
 have K03:=K02.trans K3
 have hcs:∃cs:List Value,sv=.agg cs.toArray/\cs.length=7/\(cs.all fun v=>v.oneCell')=true/\∀x∈cs,isSl x:=by
  rcases hc with⟨_,_,hR⟩|⟨rb,st,_,hP⟩
  ·exact hR.cs
  ·exact hP.ref.cs
 obtain⟨cs,rfl,hcl,hc1,hcs⟩:=hcs
 rw[kont_eq]
 simp-implicitDefEqProofs only[go_sem,↓reduceIte,Za,Zb,Zc,reduceCtorEq,Zf,Zg,Zh,Zi,Zd,Ze]
 refine kont_newstP cs rp rfl (by rfl) (by rfl) hcl rfl hc1 fun H4 b6 e4 z4 B4 K4=>?_
 have K04:=K03.trans K4
 rcases hc with⟨_,rfl,hR⟩|⟨rb,st,rfl,hP⟩
 ·simp-implicitDefEqProofs only[go_sem,↓reduceIte,Za,Zb,Zc,reduceCtorEq,kont_eq,Zf,Zg,Zh,Zi,Zd,Ze]
  rw[hQ]
  exact⟨rfl,K04⟩
 have hP4:=hP.keep0 K4
 have h5:=mkF_le5 r
 have hsl:=hP.ok.1
 have hel:=el_len r
 have hok:=mkF_ok r
 simp-implicitDefEqProofs only[go_sem,↓reduceIte,Za,Zb,Zc,reduceCtorEq,Zf,Zg,Zh,Zi,Zd,Ze]
 refine vc_loop [28,8,9,10,31,38,48,4,27] rfl (fun n f A=>∃i:Nat,n+i=6/\f 27=.int .i64 (i:Int)/\Keep (fun _=>False) H4 A) 6 ⟨0,rfl,by simp-implicitDefEqProofs only[go_sem,↓reduceIte,Za,Zb,Zc,reduceCtorEq,kont_eq,Zf,Zg,Zh,Zi,Zd,Ze],Keep.refl _ _⟩ ?_
 rintro n f A ⟨i,hni,f27,KA⟩
 simp-implicitDefEqProofs only[go_sem,↓reduceIte,Za,Zb,Zc,reduceCtorEq,kont_eq,Zf,Zg,Zh,Zi,Zd,Ze]at f27
 have KHA:=K04.trans KA
 have hPA:=hP4.keep0 KA
 have B6A:=KA.bl B4 (by simp)
 by_cases hi:(i:Int)<6
 case neg=>
  have d:decide ((i:Int)<6)=false:=decide_eq_false hi
  simp-implicitDefEqProofs only[go_sem,↓reduceIte,Za,Zb,Zc,reduceCtorEq,Zf,Zg,Zh,Zi,Zd,Ze,f27,d]
  unfold c_euP kW kX
  refine vc_drk (fun _=>False) ?_
  simp-implicitDefEqProofs only[go_sem,↓reduceIte,Za,Zb,Zc,reduceCtorEq,kont_eq,Zf,Zg,Zh,Zi,Zd,Ze,B6A.ldNO 7 hcl.symm]
  refine(c.pln.1 (mkF r) ((masksF r).map bt) st rb A (hT.keep KHA) hPA.run (goodP_mk r) (solB_mk r hP.ok)).mono ?_
  rintro y X1 ⟨J1,hy⟩
  rw[kontK_eq]
  refine⟨J1,?_⟩
  simp-implicitDefEqProofs only[go_sem,↓reduceIte,Za,Zb,Zc,reduceCtorEq,kont_eq,Zf,Zg,Zh,Zi,Zd,Ze]
  refine(c.rcmp (mkF r) (masksF r) st _ X1 (hPA.ref.keep0 J1) (smG_mk r hsl)).mono ?_
  rintro y2 X2 ⟨⟨ws,O2,R2,-,-⟩,J2⟩
  rw[kontK_eq]
  refine⟨J2,?_⟩
  obtain⟨t,tl,ht⟩:∃t tl,cmpV (mkF r) (masksF r) st=t::tl:=by
   cases h:cmpV (mkF r) (masksF r) st with
   |nil=>exact absurd h hP.ne
   |cons a l=>exact⟨a,l,rfl⟩
  have hsol:solF (pbOf (mkF r) ((masksF r).map bt)) st=some t:=by rw[sol_cmp hsl (masksF_ok r),ht];rfl
  rw[hsol]at hy
  have hy:SlR X1 y (iL t):=hy
  have hwl:=R2.len
  have hw0:0<ws.length:=by rw[hwl,ht];simp
  obtain⟨pb,po,pc,hwe,-,hld⟩:=O2.sl.cells (by intro e;rw[e]at hw0;simp at hw0)
  have hld:=hld 0 hw0
  rw[List.getElem?_eq_getElem hw0,Nat.add_zero]at hld
  have hti:=R2.at_ 0 hw0 (by omega)
  have e0:(cmpV (mkF r) (masksF r) st)[0]'(by omega)=t:=by simp only[ht,List.getElem_cons_zero]
  rw[e0]at hti
  have htl:t.length=(mkF r).st.length:=by
   have:t∈cmpV (mkF r) (masksF r) st:=by rw[ht];exact List.mem_cons_self
   exact(mem_cmp.1 this).1.1
  simp-implicitDefEqProofs only[go_sem,↓reduceIte,Za,Zb,Zc,reduceCtorEq,kont_eq,Zf,Zg,Zh,Zi,Zd,Ze,hwe,hld,Nat.add_zero]
  refine⟨by omega,(c.eqI t t y _ X2 (hy.keep J2 (by simp)) hti (by omega)).mono ?_⟩
  rintro y3 X3 ⟨rfl,rfl⟩
  have hd3:decide (t=t)=true:=decide_eq_true rfl
  rw[kontK_eq]
  refine⟨Keep.refl _ _,?_⟩
  simp-implicitDefEqProofs only[go_sem,↓reduceIte,Za,Zb,Zc,reduceCtorEq,kont_eq,Zf,Zg,Zh,Zi,Zd,Ze,hd3]
  rw[hQ]
  exact⟨rfl,(KHA.trans J1).trans J2⟩
 have d:decide ((i:Int)<6)=true:=decide_eq_true hi
 simp-implicitDefEqProofs only[go_sem,↓reduceIte,Za,Zb,Zc,reduceCtorEq,Zf,Zg,Zh,Zi,Zd,Ze,f27,d]
 refine vc_loop [31,38,9,10] rfl (fun m f2 X=>∃(u:Nat) (lv:Value),m+u=6/\1<=u/\f2 10=.int .i64 (u:Int)/\f2 9=lv/\OwS X lv (iN (wanL (mkF r) (masksF r) st i u))/\(∀q,ownB lv q->A.size<=q)/\Keep (fun _=>False) A X) 5 ⟨1,.slice none 0 0,rfl,by omega,by simp-implicitDefEqProofs only[go_sem,↓reduceIte,Za,Zb,Zc,reduceCtorEq,kont_eq,Zf,Zg,Zh,Zi,Zd,Ze],by simp-implicitDefEqProofs only[go_sem,↓reduceIte,Za,Zb,Zc,reduceCtorEq,kont_eq,Zf,Zg,Zh,Zi,Zd,Ze],by
   have:wanL (mkF r) (masksF r) st i 1=[]:=by
    have e:=wanL_succ (mkF r) (masksF r) st i 0
    rw[if_neg (fun h=>by have:=(rAsk_1 h).2.1;omega)]at e
    exact e
   rw[this];exact OwS.nil _,fun q h=>h.elim,Keep.refl _ _⟩ ?_
 rintro m f2 X ⟨u,lv,hmu,hu1,f10,f9,OX,oX,KX⟩
 simp-implicitDefEqProofs only[go_sem,↓reduceIte,Za,Zb,Zc,reduceCtorEq,kont_eq,Zf,Zg,Zh,Zi,Zd,Ze]at f10 f9
 have hPX:=hPA.keep0 KX
 have B6X:=KX.bl B6A (by simp)
 have sX:=KX.size
 by_cases hu:(u:Int)<6
 ·have du:decide ((u:Int)<6)=true:=decide_eq_true hu
  have wu:IntKind.i64.wrap ((u:Int)+1)=(u:Int)+1:=IntWalk.i64_in _ (by omega)
  simp-implicitDefEqProofs only[go_sem,↓reduceIte,Za,Zb,Zc,reduceCtorEq,Zf,Zg,Zh,Zi,Zd,Ze,f10,du,B6X.ldNO 7 hcl.symm]
  refine(c.rask (mkF r) (masksF r) st (i:Int) (u:Int) _ X hPX.ref (smG_mk r hsl)).mono ?_
  rintro y X1 ⟨rfl,K1'⟩
  rw[kont_eq]
  by_cases hq:rAskF (mkF r) (masksF r) st (i:Int) (u:Int)=1
  ·have dq:(rAskF (mkF r) (masksF r) st (i:Int) (u:Int)==1)=true:=by rw[hq];rfl
   simp-implicitDefEqProofs only[go_sem,↓reduceIte,Za,Zb,Zc,reduceCtorEq,Zf,Zg,Zh,Zi,Zd,Ze,dq,f9,f10]
   refine kont_news fun A2 bb eb zb BB KB=>?_
   have BB':Bl A2 bb [.int .i64 (u:Int)]:=BB
   simp-implicitDefEqProofs only[go_sem,↓reduceIte,Za,Zb,Zc,reduceCtorEq,kont_eq,Zf,Zg,Zh,Zi,Zd,Ze,f9,f10]
   have hwl:=wanL_len (mkF r) (masksF r) st i u
   refine app_slN A.size ((OX.keep K1' (by simp)).keep KB (by simp)) oX (by have:=K1'.size;have:=KB.size;omega) (SlR.bl BB' 0 1 1 (by omega) (by simp)) (all1_of rfl) rfl (by omega) (by simp[iN,iL];omega) fun v' A3 O3 o3 K3=>?_
   simp-implicitDefEqProofs only[go_sem,↓reduceIte,Za,Zb,Zc,reduceCtorEq,kont_eq,Zf,Zg,Zh,Zi,Zd,Ze,f10,wu]
   refine⟨m -1,by omega,u+1,v',by omega,by omega,rfl,rfl,?_,o3,((KX.trans K1').trans KB).trans' K3 fun q hq h=>by omega⟩
   rw[wanL_succ,if_pos hq]
   have:iN (wanL (mkF r) (masksF r) st i u++[u])=iN (wanL (mkF r) (masksF r) st i u)++[.int .i64 (u:Int)]:=by simp[iN,iL]
   rw[this];exact O3
  ·have dq:(rAskF (mkF r) (masksF r) st (i:Int) (u:Int)==1)=false:=by simpa using hq
   simp-implicitDefEqProofs only[go_sem,↓reduceIte,Za,Zb,Zc,reduceCtorEq,Zf,Zg,Zh,Zi,Zd,Ze,dq,f9,f10,wu]
   refine⟨m -1,by omega,u+1,lv,by omega,by omega,rfl,rfl,?_,oX,KX.trans K1'⟩
   rw[wanL_succ,if_neg hq,List.append_nil];exact OX.keep K1' (by simp)
 ·have du:decide ((u:Int)<6)=false:=decide_eq_false hu
  have hu6:u=6:=by omega
  subst hu6
  have hwl:=wanL_len (mkF r) (masksF r) st i 6
  have wi:IntKind.i64.wrap ((i:Int)+1)=(i:Int)+1:=IntWalk.i64_in _ (by omega)
  have call:CallsM P (ι.f 393) #[.pointer (some ⟨rb,0,none⟩),.int .i64 (i:Int)] X fun y X'=>SlR X' y (iN (wanL (mkF r) (masksF r) st i 6))/\Keep (fun _=>False) X X':=by
   by_cases hin:i<st.length
   ·refine(c.usr (mkF r) ((masksF r).map bt) st rb i X (hT.keep (KHA.trans KX)) hPX.run hok (by omega) hin (goodP_mk r) (solB_set r hP.ok)).mono ?_
    rintro y X' ⟨h1,-,h2⟩
    rw[wan_usr hP.ok (by omega) (masksF_ok r)]at h1
    exact⟨h1,h2⟩
   ·refine(c.usx.1 (mkF r) ((masksF r).map bt) st rb i X hPX.run (by omega) (by omega)).mono ?_
    rintro y X' ⟨rfl,h2⟩
    rw[wan_none (by omega)]
    exact⟨SlR.nil _ _ _,h2⟩
  simp-implicitDefEqProofs only[go_sem,↓reduceIte,Za,Zb,Zc,reduceCtorEq,Zf,Zg,Zh,Zi,Zd,Ze,f10,du]
  refine call.mono ?_
  rintro y X1 ⟨hy,K1'⟩
  rw[kont_eq]
  simp-implicitDefEqProofs only[go_sem,↓reduceIte,Za,Zb,Zc,reduceCtorEq,Zf,Zg,Zh,Zi,Zd,Ze,f9]
  refine(c.eqI (nI (wanL (mkF r) (masksF r) st i 6)) (nI (wanL (mkF r) (masksF r) st i 6)) y lv X1 hy (OX.sl.keep K1' (by simp)) (by rw[nI_len];omega)).mono ?_
  rintro y2 X2 ⟨rfl,rfl⟩
  have hd2:decide (nI (wanL (mkF r) (masksF r) st i 6)=nI (wanL (mkF r) (masksF r) st i 6))=true:=decide_eq_true rfl
  rw[kont_eq]
  simp-implicitDefEqProofs only[go_sem,↓reduceIte,Za,Zb,Zc,reduceCtorEq,Zf,Zg,Zh,Zi,Zd,Ze,hd2,Bool.not_true,f27,wi]
  exact⟨n -1,by omega,i+1,by omega,rfl,(KA.trans KX).trans K1'⟩
end Go.Mg
