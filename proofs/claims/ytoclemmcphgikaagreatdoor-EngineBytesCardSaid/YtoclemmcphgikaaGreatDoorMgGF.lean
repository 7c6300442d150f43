/- Lemmas of ours. No conditions. -/
import Derived.Test.YtoclemmcphgikaaGreatDoorMgGD
open Bool renaming false→ZS,true→ZT
open Decidable renaming decide→ZQ
open Go renaming Value→ZR
open Go.IntKind renaming i64→ZY,u8→ZX
open Go.Value renaming bool→Z5,int→Z8,pointer→Z7,tuple→ZZ
open Option renaming none→ZU,some→ZV
open Bool renaming not_false→ZB,not_true→ZE
open Int renaming toNat_natCast→Zo
open Nat renaming reduceEqDiff→Za,reduceAdd→Zb,reduceMul→Zc,reduceLeDiff→Zd,reduceLT→Ze
open Int renaming reduceBEq→Zf,reduceBNe→Zg,reduceLE→Zh,reduceLT→Zi
set_option maxRecDepth 100000
set_option linter.all false
namespace Go.Mg
open Go Go.RowKit
def Cs (V:aH):S:=
 kY [kC 6 (Z8 ZX 0)] (.seq (kY [kA 12 0,kU 13 (.m (.eqn .ptr ZS (.t 12))),kF 14 13,kS 15 14 ZS 0,.ge (.t 16) (.t 14) ZS (kg (V.f 385) [.t 15]),kS 17 14 ZS 1,.ge (.t 18) (.t 14) ZS (kg (V.f 158) [.t 16,.t 17]),kT 19 14 ZS (.not (.t 18)),kV 20 (.pick (.t 14) (.c (Z5 ZT)) (.t 19))] (.ite (.v 20) (kY [kC 6 (Z8 ZX 2)] .ret) .skip)) (.seq (kY [kA 21 0,kU 22 (.nil (.t 21)),kU 23 (.fa 5 (.t 22)),kD 24 23,kA 25 1,kI 26 1 24 25,kN 27 1 26,kA 28 2,kc 29 (kg (V.f 130) [.t 27,.t 28]),kV 30 (.not (.t 29))] (.ite (.v 30) (kY [kC 6 (Z8 ZX 3)] .ret) .skip)) (kY [kA 31 0,kA 32 1,kA 33 2,kc 34 (kg (V.f 380) [.t 31,.t 32,.t 33]),kB 7 34] (.seq (kY [kA 36 0,kU 37 (.nil (.t 36)),kU 38 (.fa 0 (.t 37)),kN 39 5 38,kA 40 7,kc 41 (kg (V.f 320) [.t 39,.t 40]),kF 35 41,kQ 42 35 0,kQ 43 35 1,kc 8 (.new (V.t 318) #[Z8 ZY 0,Z8 ZY 0]),kf (.stn 2 (.t 8) (.t 42)),kB 9 43] (kY [kA 44 9,kV 45 (.not (.t 44))] (.ite (.v 45) (kY [kC 6 (Z8 ZX 4)] .ret) .skip))) (.seq (kY [kA 47 0,kA 48 7,kc 49 (kg (V.f 377) [.t 47,.t 48]),kF 46 49,kQ 50 46 0,kQ 51 46 1,kF 10 50,kB 11 51] (kY [kA 52 11,kV 53 (.not (.t 52))] (.ite (.v 53) (kY [kC 6 (Z8 ZX 5)] .ret) .skip))) (kY [kC 6 (Z8 ZX 1)] .ret))))))
def Ct:List RV:=[.t 6]
def fH (F:cf) (el:List (Nat->Bool)) (st:List Int) (step user:Int):Int:=
 if step∈nI (nW F.st.length F.be (cD st st.length))then
  if cz (el.getD step.toNat fun _=>ZS) user=ZT then
   if(ly F (st.set step.toNat user)).2.2=ZT then if(et (bJ F el) (st.set step.toNat user)).isSome=ZT then 1 else 5 else 4
  else 3
 else 2
structure ale (P:Program) (V:aH):Prop where
 F1:qL P V (V.f 385)
 wth:nO P (V.f 380)
 pln:iq P V (V.f 377)
 con:mG P (V.f 158)
 has:fk P (V.f 130)
 hld:wN P V (V.f 320)
def mN (P:Program) (V:aH) (k:FuncId):Prop:=(∀(F:cf) (el:List (Nat->Bool)) (st:List Int) (rb:Nat) (step user:Int) (H:Hp),bh V H->cH H rb F el st->nM F=ZT->st.length=el.length->eT (bJ F el)->(∀i u,i<st.length->cz (el.getD i fun _=>ZS) u=ZT->uB (bJ F el) (st.set i u))→
  an P k #[Z7 (ZV ⟨rb,0,ZU⟩),Z8 ZY step,Z8 ZY user] H fun r H'=>r=Z8 ZX (fH F el st step user)/\af (fun _=>False) H H')∧
 ∀(step user:Int) H,an P k #[Z7 ZU,Z8 ZY step,Z8 ZY user] H fun r H'=>r=Z8 ZX 2/\H'=H
variable {P:Program} {V:aH} {k:FuncId} {H:Hp} {rb:Nat}
def abR (hk:ak P k (Cs V) Ct 3) (c:ale P V):mN P V k:=by
 refine⟨fun F el st rb step user H hT hR hok hsl hG hB=>?_,fun step user H=>?_⟩
 case refine_2=>
  refine ah hk (args:=[_,_,_]) (by simp) ?_;unfold Cs Ct kA kB kF kC kD kI kN kQ kS kT kU kV kc kf kg kY;simp only[go_sem,Za,Zb,ae]
 have hR0:=hR;obtain⟨s,b,d,a,m,ev,sv,vs,B,hF,he,hel,hst,hes,hsv⟩:=hR;have hn:el.length<=10:=hG.n;refine ah hk (args:=[_,_,_]) (by simp) ?_;unfold Cs Ct kA kB kF kC kD kI kN kQ kS kT kU kV kc kf kg kY;simp-implicitDefEqProofs only[go_sem,↓reduceIte,Za,Zb,Zc,reduceCtorEq];refine(c.F1.1 F el st rb H hT hR0 hok (by omega)).mono ?_;rintro r H1 ⟨hr,K1⟩;rw[ae];simp-implicitDefEqProofs only[go_sem,↓reduceIte,Za,Zb,Zc,reduceCtorEq];have UK:(nW F.st.length F.be (cD st st.length)).length<=1000000:=by
  have:=wK F.st.length F.be (cD st st.length);omega
 refine(c.con (nI (nW F.st.length F.be (cD st st.length))) r step H1 hr (by rw[vY];exact UK)).mono ?_;rintro r H2 ⟨⟨z,rfl,hz⟩,rfl⟩;rw[ae]
 cases z with
 |false=>
  have:fH F el st step user=2:=by unfold fH;rw[if_neg (fun h=>by have:=hz.2 h;cases this)]
  simp only[go_sem,Za,Zb,this];exact K1
 |true=>
 have hmem:=hz.1 rfl;obtain⟨j,hj,ym⟩:∃j:Nat,step=(j:Int)/\j<st.length:=by
  unfold nI nW at hmem;obtain⟨j,hj,rfl⟩:=List.mem_map.1 hmem;have:=List.mem_range.1 (List.mem_filter.1 hj).1;exact⟨j,rfl,by omega⟩
 subst hj;have R1:=hR0.aj K1;obtain⟨s1,b1,d1,a1,m1,Pq,sv1,vs1,B1,hF1,he1,alf,-,hes1,alg⟩:=R1;have c5:cell H2 ⟨rb,5,ZU⟩=ZV Pq:=by rw[B1.cell];rfl
 obtain⟨sb,so,sc,e,hld⟩:=he1.ld1 (i:=j) (by omega);have hS:=hes1 j (by omega);generalize vs1.getD j undef=u at*;simp only[go_sem,Za,Zb,c5,e,al,alf,hld,aC];refine⟨by omega,?_⟩;refine(c.has _ _ user H2 hS).mono ?_;rintro r H3 ⟨rfl,K3⟩;rw[ae];have eo:=K1.trans K3;have hup:fH F el st (j:Int) user=if cz (el.getD j fun _=>ZS) user=ZT then
   if(ly F (st.set j user)).2.2=ZT then if(et (bJ F el) (st.set j user)).isSome=ZT then 1 else 5 else 4
  else 3:=by unfold fH;rw[if_pos hmem,Zo]
 cases hme:cz (el.getD j fun _=>ZS) user with
 |false=>
  rw[hme]at hup;have Sh:fH F el st (j:Int) user=3:=hup;simp only[go_sem,Za,Zb,ZB,Sh];exact eo
 |true=>
 rw[hme,if_pos rfl]at hup;simp only[go_sem,Za,Zb,ZE];refine(c.wth F el st rb j user H3 (hR0.aj eo) (by omega) ym).mono ?_;rintro r H4 ⟨O4,o4,K4⟩;have oF:=eo.trans K4;obtain⟨s2,b2,d2,a2,m2,ev2,sv2,vs2,B2,hF2,-,-,-,-,-⟩:=hR0.aj oF;have l5:aQ H4 ⟨rb,0,ZU⟩ 5=ZV #[s2,b2,d2,a2,m2]:=by
  have:=B2.aQ (o:=0) (n:=5) (by simp);simpa using this
 rw[ae];simp only[go_sem,Za,Zb,l5,aC];refine(c.hld F _ r (st.set j user) H4 (hT.ai oF) hF2 hok O4.sl).mono ?_;rintro r' H5 ⟨rfl,K5⟩;rw[ae];have DS:=oF.trans K5;unfold ahU;simp only[go_sem,Za,Zb];refine ax fun H6 b8 e8 z8 B8 K6=>?_;have B8':Bl H6 b8 [Z8 ZY 0,Z8 ZY 0]:=B8;have t8:=B8'.bG (o:=0) (n:=2) (by simp);have a8:bM #[Value.int ZY ((ly F (st.set j user)).1:Int),Z8 ZY ((ly F (st.set j user)).2.1:Int)]:=aU rfl;have K7:af (fun q=>q=b8) H6 (aB H6 ⟨b8,0,ZU⟩ [Z8 ZY ((ly F (st.set j user)).1:Int),Z8 ZY ((ly F (st.set j user)).2.1:Int)]):=(af.refl _ _).aB _ (.inl rfl);have K57:af (fun _=>False) H5 (aB H6 ⟨b8,0,ZU⟩ [Z8 ZY ((ly F (st.set j user)).1:Int),Z8 ZY ((ly F (st.set j user)).2.1:Int)]):=K6.trans' K7 fun q hq e=>by omega
 simp only[go_sem,Za,Zb,t8];refine⟨a8,?_⟩;rw[ae];generalize aB H6 ⟨b8,0,ZU⟩ [Z8 ZY ((ly F (st.set j user)).1:Int),Z8 ZY ((ly F (st.set j user)).2.1:Int)]=H7 at K57⊢;have Fs:=DS.trans K57
 cases hho:(ly F (st.set j user)).2.2 with
 |false=>
  rw[hho]at hup;have Sh:fH F el st (j:Int) user=4:=hup;simp only[go_sem,Za,Zb,ZB,Sh];exact Fs
 |true=>
 rw[hho,if_pos rfl]at hup;simp only[go_sem,Za,Zb,ZE];refine(c.pln F el st (st.set j user) rb r H7 (hT.ai Fs) (hR0.aj Fs) ((O4.ai K5 (by simp)).ai K57 (by simp)).sl hG (hB j user ym hme)).mono ?_;rintro r'' H8 ⟨y,rfl,K8,-⟩;rw[ae]
 cases hso:(et (bJ F el) (st.set j user)).isSome with
 |false=>
  rw[hso]at hup;have Sh:fH F el st (j:Int) user=5:=hup;simp only[go_sem,Za,Zb,ZB,Sh];exact Fs.trans K8
 |true=>
  rw[hso,if_pos rfl]at hup;simp only[go_sem,Za,Zb,ZE,hup];exact Fs.trans K8
def aek (V:aH):S:=
 (.dr (kW 37 (.mv (.v 0)) (kW 38 (.nil (.t 37)) (kW 39 (.fa 0 (.t 38)) (kW 40 (.m (.ldn 5 (.t 39))) (kW 41 (.mv (.v 0)) (kW 42 (.nil (.t 41)) (kW 43 (.fa 5 (.t 42)) (kW 44 (.ld (.t 43)) (kW 45 (.mv (.v 0)) (kW 46 (.mv (.v 1)) (kW 47 (.mv (.v 2)) (ka 48 (kg (V.f 380) [.t 45,.t 46,.t 47]) (kW 49 (.m (.bld #[kZ,kZ,kZ,kZ,kZ,kZ,kZ] [(0,(5,.t 40)),(5,(1,.t 44)),(6,(1,.t 48))])) (ka 50 (.box (V.t 387) (.t 49)) (kX 6 (.mv (.t 50)) (kX 7 (.mv (.c (Z8 ZY 0))) .done)) .wnil)) .wnil)))))))))))))
def Cu (V:aH):S:=
 kY [kC 6 (Z7 .none),kC 7 (Z8 ZY 0)] (.seq (kY [kA 8 0,kU 9 (.m (.eqn .ptr ZS (.t 8))),kF 10 9,kS 11 10 ZS 1,kT 12 10 ZS (.cm .lss ZY (.t 11) (.c (Z8 ZY 0))),kU 13 (.pick (.t 10) (.c (Z5 ZT)) (.t 12)),kF 14 13,kS 15 14 ZS 1,kS 16 14 ZS 0,kT 17 14 ZS (.nil (.t 16)),kT 18 14 ZS (.fa 6 (.t 17)),kT 19 14 ZS (.ld (.t 18)),kT 20 14 ZS (.m (.lenl (.t 19))),kT 21 14 ZS (.cm .geq ZY (.t 15) (.t 20)),kU 22 (.pick (.t 14) (.c (Z5 ZT)) (.t 21)),kF 23 22,kS 24 23 ZS 2,kT 25 23 ZS (.cm .lss ZY (.t 24) (.c (Z8 ZY 1))),kU 26 (.pick (.t 23) (.c (Z5 ZT)) (.t 25)),kF 27 26,kS 28 27 ZS 2,kT 29 27 ZS (.cm .gtr ZY (.t 28) (.c (Z8 ZY 256))),kV 30 (.pick (.t 27) (.c (Z5 ZT)) (.t 29))] (.ite (.v 30) (kY [kC 6 (Z7 .none),kC 7 (Z8 ZY 1)] .ret) .skip)) (.seq (kY [kA 31 0,kA 32 1,kA 33 2,kd 34 (kg (V.f 386) [.t 31,.t 32,.t 33])] (.blk 0 (kY [kU 36 (.cm .eql ZX (.v 34) (.c (Z8 ZX 1))),kB 35 36] (.ite (.v 35) (.seq (aek V) .ret) (kY [kU 52 (.cm .eql ZX (.v 34) (.c (Z8 ZX 2))),kB 51 52] (.ite (.v 51) (kY [kC 6 (Z7 .none),kC 7 (Z8 ZY 7)] .ret) (kY [kU 54 (.cm .eql ZX (.v 34) (.c (Z8 ZX 3))),kB 53 54] (.ite (.v 53) (kY [kC 6 (Z7 .none),kC 7 (Z8 ZY 11)] .ret) .skip)))))))) (kY [kC 6 (Z7 .none),kC 7 (Z8 ZY 12)] .ret)))
def Cv:List RV:=[.t 6,.t 7]
def oh (F:cf) (el:List (Nat->Bool)) (st:List Int) (step user:Int):Int:=
 if step<0\/step≥(st.length:Int)\/user<1\/user>256 then 1 else if fH F el st step user=1 then 0 else if fH F el st step user=2 then 7 else if fH F el st step user=3 then 11 else 12
def dY (W:Nat->Prop) (H:Hp) (rb:Nat):Prop:=¬W rb/\∃ev,cell H ⟨rb,5,ZU⟩=ZV ev/\∀q,aV ev q->¬W q
def dY.aj {W:Nat->Prop} {H':Hp} (h:dY W H rb) (hl:rb<H.size) (hk:af (fun _=>False) H H'):dY W H' rb:=by
 obtain⟨h1,ev,h2,h3⟩:=h;exact⟨h1,ev,by rw[hk.cell hl (by simp)];exact h2,h3⟩
def cH.lt {F:cf} {el:List (Nat->Bool)} {st:List Int} (h:cH H rb F el st):rb<H.size:=by
 obtain⟨s,b,d,a,m,ev,sv,vs,h1,_⟩:=h;exact h1.lt
def xd (P:Program) (V:aH) (k:FuncId):Prop:=(∀(F:cf) (el:List (Nat->Bool)) (st:List Int) (rb:Nat) (step user:Int) (H:Hp),bh V H->cH H rb F el st->nM F=ZT->st.length=el.length->eT (bJ F el)->(∀i u,i<st.length->cz (el.getD i fun _=>ZS) u=ZT->uB (bJ F el) (st.set i u))→
  an P k #[Z7 (ZV ⟨rb,0,ZU⟩),Z8 ZY step,Z8 ZY user] H fun r H'=>af (fun _=>False) H H'/\((oh F el st step user≠0/\r=ZZ #[Z7 ZU,Z8 ZY (oh F el st step user)])\/(oh F el st step user=0/\∃sP,r=ZZ #[Z7 (ZV ⟨sP,0,ZU⟩),Z8 ZY 0]/\cH H' sP F el (st.set step.toNat user)/\∀W:Nat->Prop,(∀q,W q->q<H.size)->dY W H rb->dY W H' sP)))∧
 ∀(step user:Int) H,an P k #[Z7 ZU,Z8 ZY step,Z8 ZY user] H fun r H'=>r=ZZ #[Z7 ZU,Z8 ZY 1]/\H'=H
def abS (hk:ak P k (Cu V) Cv 3) (ha:mN P V (V.f 386)) (hw:nO P (V.f 380)):xd P V k:=by
 refine⟨fun F el st rb step user H hT hR hok hsl hG hB=>?_,fun step user H=>?_⟩
 case refine_2=>
  refine ah hk (args:=[_,_,_]) (by simp) ?_;unfold Cu Cv kA kB kF kC kS kT kU kV kd kg kY;simp only[go_sem,Za,Zb,ae]
 have hn:el.length<=10:=hG.n;obtain⟨sv,c6,hsv⟩:=hR.yZ;have lv:aW sv=st.length:=by rw[hsv.len,aA]
 refine qI fun Q hQ=>?_;refine ah hk (args:=[_,_,_]) (by simp) ?_;unfold Cu Cv kA kB kF kC kS kT kU kV kd kg kY;have bad:step<0\/step≥(st.length:Int)\/user<1\/user>256->Q (ZZ #[Z7 ZU,Z8 ZY 1]) H:=fun h=>by
  have:oh F el st step user=1:=by unfold oh;rw[if_pos h]
  rw[hQ,this];exact⟨af.refl _ _,.inl ⟨by decide,rfl⟩⟩
 by_cases h1:step<0
 ·have d1:ZQ (step<0)=ZT:=decide_eq_true h1;simp only[go_sem,Za,Zb,ae,d1];exact bad (.inl h1)
 have d1:ZQ (step<0)=ZS:=decide_eq_false h1
 by_cases h2:step≥(st.length:Int)
 ·have d2:ZQ (step≥(st.length:Int))=ZT:=decide_eq_true h2;simp only[go_sem,Za,Zb,ae,d1,c6,hsv.aq,lv,d2];exact bad (.inr (.inl h2))
 have d2:ZQ (step≥(st.length:Int))=ZS:=decide_eq_false h2
 by_cases h3:user<1
 ·have d3:ZQ (user<1)=ZT:=decide_eq_true h3;simp only[go_sem,Za,Zb,ae,d1,c6,hsv.aq,lv,d2,d3];exact bad (.inr (.inr (.inl h3)))
 have d3:ZQ (user<1)=ZS:=decide_eq_false h3
 by_cases h4:user>256
 ·have d4:ZQ (user>256)=ZT:=decide_eq_true h4;simp only[go_sem,Za,Zb,ae,d1,c6,hsv.aq,lv,d2,d3,d4];exact bad (.inr (.inr (.inr h4)))
 have d4:ZQ (user>256)=ZS:=decide_eq_false h4;have pP:¬(step<0\/step≥(st.length:Int)\/user<1\/user>256):=by omega
 simp only[go_sem,Za,Zb,d1,c6,hsv.aq,lv,d2,d3,d4];refine(ha.1 F el st rb step user H hT hR hok hsl hG hB).mono ?_;rintro r H1 ⟨rfl,K1⟩;rw[ae]
 by_cases a1:fH F el st step user=1
 ·have hg:oh F el st step user=0:=by unfold oh;rw[if_neg pP,if_pos a1]
  have b1:(fH F el st step user==1)=ZT:=by rw[a1];rfl
  obtain⟨j,rfl⟩:∃j:Nat,step=(j:Int):=⟨step.toNat,by omega⟩
  simp only[go_sem,Za,Zb,b1];have R1:=hR.aj K1;have R1':=R1;obtain⟨s,b,d,a,m,ev,sv1,vs,B,hF,he,hel,hst,hes,alg⟩:=R1;obtain⟨ea,ec,rfl,-⟩:=he.mk;have c5:cell H1 ⟨rb,5,ZU⟩=ZV (.slice ea vs.length ec):=by rw[B.cell];rfl
  have l5:aQ H1 ⟨rb,0,ZU⟩ 5=ZV #[s,b,d,a,m]:=by
   have:=B.aQ (o:=0) (n:=5) (by simp);simpa using this
  unfold aek kW kX ka kg kZ;refine aZ (fun _=>False) ?_;simp only[go_sem,Za,Zb,c5,l5,aC];refine(hw F el st rb j user H1 R1' (by omega) (by omega)).mono ?_;rintro r H2 ⟨O,o,K2⟩;obtain⟨ra,rn,rc,rfl⟩:=O.shape;rw[aJ];refine⟨K2,?_⟩;simp-implicitDefEqProofs only[go_sem,↓reduceIte,Za,Zb,Zc,reduceCtorEq,Zf,Zg,Zh,Zi,Zd,Ze];have df:=K1.trans K2;have Kp:∀(T:TypeId) (z:Array ZR),af (fun _=>False) H2 (H2.push (.cells z T)):=fun T z=>(af.refl _ _).push _;refine⟨(af.refl _ _).push _,?_⟩;rw[hQ];refine⟨df.trans (Kp _ _),.inr ⟨hg,H2.size,rfl,?_⟩⟩;rw[Zo];refine⟨⟨s,b,d,a,m,_,_,vs,Bl.dh _ _ _,hF.aj (K2.trans (Kp _ _)),he.ai (K2.trans (Kp _ _)) (by simp),hel,hst,fun i hi=>(hes i hi).aj (K2.trans (Kp _ _)),O.sl.ai (Kp _ _) (by simp)⟩,fun W hW hA=>?_⟩;obtain⟨a1,Cw,a2,a3⟩:=hA.aj hR.lt K1;rw[c5]at a2
  cases a2
  refine⟨fun h=>?_,_,(Bl.cell (Bl.dh _ _ _) 5).trans rfl,a3⟩;have:=hW _ h;have:=df.size;omega
 have b1:(fH F el st step user==1)=ZS:=by simpa using a1
 by_cases a2:fH F el st step user=2
 ·have hg:oh F el st step user=7:=by unfold oh;rw[if_neg pP,if_neg a1,if_pos a2]
  have b2:(fH F el st step user==2)=ZT:=by rw[a2];rfl
  simp only[go_sem,Za,Zb,b1,b2];rw[hQ,hg];exact⟨K1,.inl ⟨by decide,rfl⟩⟩
 have b2:(fH F el st step user==2)=ZS:=by simpa using a2
 by_cases a3:fH F el st step user=3
 ·have hg:oh F el st step user=11:=by unfold oh;rw[if_neg pP,if_neg a1,if_neg a2,if_pos a3]
  have b3:(fH F el st step user==3)=ZT:=by rw[a3];rfl
  simp only[go_sem,Za,Zb,b1,b2,b3];rw[hQ,hg];exact⟨K1,.inl ⟨by decide,rfl⟩⟩
 have b3:(fH F el st step user==3)=ZS:=by simpa using a3
 have hg:oh F el st step user=12:=by unfold oh;rw[if_neg pP,if_neg a1,if_neg a2,if_neg a3]
 simp only[go_sem,Za,Zb,b1,b2,b3];rw[hQ,hg];exact⟨K1,.inl ⟨by decide,rfl⟩⟩
end Go.Mg
