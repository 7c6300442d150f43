/- Lemmas of ours. No conditions. -/
import Derived.Test.YtoclemmcphgikaaGreatDoorMgE4
open Bool renaming false→ZS,true→ZT
open Decidable renaming decide→ZQ
open Go renaming Value→ZR
open Go.IntKind renaming i64→ZY,u64→ZW
open Go.Value renaming agg→Z0,bool→Z5,int→Z8,pointer→Z7,slice→Z6
open Option renaming none→ZU,some→ZV
open Bool renaming eq_iff_iff→YU,not_false→ZB,not_true→ZE
open Int renaming toNat_natCast→Zo
open List renaming all_append→VS,all_cons→Yc,all_nil→Xs,append_nil→YY,filter_append→XD,filter_cons→WL,filter_nil→WD,getD_eq_getElem?_getD→ZP,getElem?_eq_getElem→ZO,getElem_append_left→YJ,getElem_mem→ZL,length→Y8,length_filter_le→YS,length_nil→Zx,length_set→YE,mem_singleton→XC,range→ZF,range_succ→Yg,replicate→ZM,take_length→ZI
open Nat renaming pow_le_pow_right→YO
open Nat renaming reduceEqDiff→Za,reduceAdd→Zb,reduceMul→Zc,reduceLeDiff→Zd,reduceLT→Ze
open Int renaming reduceBEq→Zf,reduceBNe→Zg,reduceLE→Zh,reduceLT→Zi
set_option maxRecDepth 100000
set_option linter.all false
namespace Go.Mg
open Go Go.RowKit
def Sp (V:aH):S:=
 (.reg [kA 25 8,kF 26 25,kS 27 26 ZT 10,kT 28 26 ZT (.cm .gtr ZY (.t 27) (.c (Z8 ZY 0))),kJ 29 26 28,kF 30 29,kS 31 30 ZT 1,kS 32 30 ZT 9,kT 33 30 ZT (.is 1 (.t 31) (.t 32)),kT 34 30 ZT (.ld (.t 33)),kS 35 30 ZT 10,kT 36 30 ZT (.sh .shr ZW (.t 34) (.t 35)),kT 37 30 ZT (.dv .rem ZW (.t 36) (.c (Z8 ZW 2))),kT 38 30 ZT (.cm .eql ZW (.t 37) (.c (Z8 ZW 1))),kJ 39 30 38,kB 8 39])
def Mb (V:aH):S:=
 (.reg [kA 55 6,kc 56 (kg (V.f 394) [.t 55,.c (Z8 ZY 4)]),kF 54 56,kQ 57 54 0,kQ 58 54 1,kB 6 57,kB 7 58])
def IX (V:aH):S:=
 kY [kR 2 (V.t 289) 0,kC 4 (kZ)] (kY [kC 5 (kZ)] (kY [kG 13 0 2,kD 14 13,kL 15 14,kc 16 (.rJ (V.t 26) 1 8 #[Z8 ZY 0] (.t 15) (.t 15)),kB 6 16] (.seq (kY [kC 7 (Z5 ZT)] (.blk 0 (.loop (.seq (kY [kV 17 (.mv (.v 7))] (.ite (.v 17) .skip (.exit 0))) (.blk 1 (kY [kC 8 (Z5 ZT)] (.seq (kY [kV 18 (.mv (.v 6)),kO 19 18,kC 20 (Z8 ZY 0)] (.blk 2 (.loop (kY [kH 21 20 19] (.seq (.ite (.v 21) .skip (.exit 2)) (.seq (.blk 3 (kY [kA 22 20,kK 23 1 18 20,kD 24 23,kB 9 22,kB 10 24] (Sp V))) (.reg [ke 40 20,kB 20 40]))))))) (.seq (kY [kV 41 (.mv (.v 8))] (.ite (.v 41) (kY [kM 43 5 2,kA 44 6,kc 45 (kg (V.f 321) [.t 43,.t 44]),kF 42 45,kQ 46 42 0,kQ 47 42 1,kB 11 46,kF 12 47] (kY [kA 48 11,kV 49 (.cm .eql ZY (.t 48) (.c (Z8 ZY 0)))] (.ite (.v 49) (.reg [kA 50 5,kA 51 6,kc 52 (.aX (V.t 138) 1 1 [.t 51]),kc 53 (.app ZS (V.t 138) 1 24 #[kZ] (.t 50) (.t 52)),kB 5 53]) .skip))) .skip)) (Mb V))))))))) (kY [kA 59 5,kB 4 59] .ret))))
def IY:List RV:=[.t 4]
structure UL (H:Hp) (vs:List ZR) (ls:List (List Int)):Prop where
 len:vs.length=ls.length
 at_:∀i (h:i<vs.length) (h':i<ls.length),aP H vs[i] (iL ls[i])
variable {H H' A:Hp} {vs:List ZR} {ls:List (List Int)} {C i:Nat} {v sv s ev b d a m:ZR} {P:Program} {V:aH} {f:Fr} {ms:List UInt64} {k:FuncId} {u:Int} {Qb:Ex->Fr->Hp->Prop} {F:cf}
def UL.ai {W:Nat->Prop} (h:UL H vs ls) (hk:af W H H') (hw:∀x∈vs,∀q,aV x q->¬W q):UL H' vs ls:=
 ⟨h.len,fun i h1 h2=>(h.at_ i h1 h2).ai hk fun q hq=>hw _ (ZL h1) q hq⟩
def UL.aj (h:UL H vs ls) (hk:af (fun _=>False) H H'):UL H' vs ls:=h.ai hk fun _ _ _ _ h=>h
def UL.snoc (h:UL H vs ls) {x:ZR} {y:List Int} (h2:aP H x (iL y)):UL H (vs++[x]) (ls++[y]):=by
 refine⟨by simp[h.len],fun i hi iU=>?_⟩
 by_cases e:i<vs.length
 ·rw[YJ e,YJ (by rw[<-h.len];exact e)];exact h.at_ i e (by rw[<-h.len];exact e)
 ·have ou:i=vs.length:=by simp at hi;omega
  subst ou;have e1:(vs++[x])[vs.length]=x:=by simp
  have e2:(ls++[y])[vs.length]'iU=y:=by
   have:=h.len;simp[this]
  rw[e1,e2];exact h2
def IZ (C:Nat) (H:Hp) (v:ZR) (ls:List (List Int)):Prop:=∃vs,br H v vs/\UL H vs ls/\(∀q,ay v q->C<=q)/\∀x∈vs,∀q,aV x q->¬ay v q
def IZ.aj (h:IZ C H v ls) (hk:af (fun _=>False) H H'):IZ C H' v ls:=by
 obtain⟨vs,h1,h2,h3⟩:=h;exact⟨vs,h1.ai hk (by simp),h2.aj hk,h3⟩
def IZ.nil (C:Nat) (H:Hp):IZ C H (Z6 ZU 0 0) []:=⟨[],br.nil _,⟨rfl,fun i h=>by simp at h⟩,fun q h=>h.elim,fun x h=>by simp at h⟩
def IZ.app {bb:Nat} {A2:Hp} {ov:ZR} {s:List Int} (h:IZ C A ov ls) (hC:C<=A.size) (hs:aP A sv (iL s)) (hn:∀q,aV sv q->¬ay ov q) (hl:ls.length<=1000000) (BB:Bl A2 bb [sv]) (KB:af (fun _=>False) A A2)
  {T:TypeId} {K:ZR->Hp->Prop} (hK:∀v' A',IZ C A' v' (ls++[s])->af (ay ov) A2 A'->(∀q,ay v' q->ay ov q\/A2.size<=q)->K v' A'):jn ZS T 1 24 #[Z6 ZU 0 0] ov (Z6 (ZV ⟨bb,0,ZU⟩) 1 1) A2 K:=by
 obtain⟨vs,OA,RA,oA,rA⟩:=h;have sA:=KB.size;have h1:bM #[sv]:=aU (by simp only[Yc,Xs,aK hs.aq];rfl);have hv:=RA.len;refine iD (OA.ai KB (by simp)) (aP.bl BB 0 1 1 (by omega) (by simp)) h1 rfl (by unfold maxLen;simp;omega) (by simp;omega) fun v' A3 O3 K3 o3=>?_;have hown:∀q,ay ov q->q<A.size:=fun q hq=>OA.bo hq;have hvs:∀z∈vs,∀q,aV z q->q<A.size:=fun z hz q hq=>by
  obtain⟨j,hj,rfl⟩:=List.getElem_of_mem hz;exact(RA.at_ j hj (by rw[<-RA.len];exact hj)).bo hq
 refine hK v' A3 ⟨vs++[sv],O3,((RA.aj KB).ai K3 fun z hz q hq=>rA z hz q hq).snoc ((hs.ai KB (by simp)).ai K3 fun q hq=>hn q hq),fun q hq=>?_,fun z hz q hq=>?_⟩ K3 o3
 ·rcases o3 q hq with h|h
  ·exact oA q h
  ·omega
 ·rcases List.mem_append.1 hz with hz|hz
  ·intro h;rcases o3 q h with h|h
   ·exact rA z hz q hq h
   ·have:=hvs z hz q hq;omega
  ·simp only[XC]at hz;subst hz;intro h;rcases o3 q h with h|h
   ·exact hn q hq h
   ·have:=hs.bo hq;omega
def I0 (ms:List UInt64) (s:List Int) (i:Nat):Bool:=(ZF i).all fun k=>ZQ (0<s.getD k 0)&&bt (ms.getD k 0) (s.getD k 0).toNat
def Oc (ms:List UInt64) (s:List Int) (i:Nat):I0 ms s (i+1)=(I0 ms s i&&(ZQ (0<s.getD i 0)&&bt (ms.getD i 0) (s.getD i 0).toNat)):=by
 unfold I0;rw[Yg,VS];simp
def Sq (x:UInt64) (i:Nat):((((x.toNat:Int)/2^i).tmod 2)==1)=bt x i:=by
 have h:=qz x i;have e:((x.toNat:Int)/2^i)=((x.toNat/2^i:Nat):Int):=by simp
 have e2:(((x.toNat/2^i:Nat):Int)).tmod 2=((x.toNat/2^i % 2:Nat):Int):=ct _ 2;rw[e,e2]at h⊢;have:x.toNat/2^i % 2<2:=Nat.mod_lt _ (by omega)
 cases hb:bt x i with
 |true=>
  rw[hb]at h;simp only[ZE,beq_eq_false_iff_ne,ne_eq]at h;rw[beq_iff_eq];omega
 |false=>
  rw[hb]at h;simp only[ZB,beq_iff_eq]at h;rw[beq_eq_false_iff_ne];omega
def agb {k:Nat} {ok:Bool} (h1:f 1=ev) (h8:f 8=.bool ok) (h9:f 9=Z8 ZY (k:Int)) (h10:f 10=Z8 ZY u) (he:aP A ev (cj ms)) (hk:k<ms.length) (hu:u<=4)
  (hK:Qb .n (bR f 8 (.bool (ok&&(ZQ (0<u)&&bt (ms.getD k 0) u.toNat)))) A):vc P (Sp V) Qb f A:=by
 unfold Sp kA kB kF kJ kS kT
 cases ok with
 |false=>
  simp only[go_sem,Za,Zb,ae,h8];exact hK
 |true=>
  by_cases h0:0<u
  ·have d0:ZQ (u>0)=ZT:=decide_eq_true h0;have d0':ZQ (0<u)=ZT:=decide_eq_true h0;rw[d0']at hK;obtain⟨b,o,c,rfl,-,hc⟩:=he.cells (by intro e;have:=congrArg Y8 e;rw[aI,Zx]at this;omega);have hci:=hc k (by rw[aI];exact hk);rw[dW _ _ hk]at hci;have hln:(cj ms).length=ms.length:=aI _;obtain⟨j,rfl⟩:∃j:Nat,u=(j:Int):=⟨u.toNat,by omega⟩
   rw[Zo]at hK;have agc:((j:Int)).toNat=j:=by omega
   rw[hln]at h1;simp only[go_sem,Za,Zb,ae,h1,h8,h9,h10,d0,al,hci,agc,Sq];refine⟨by omega,⟨by omega,by show((j:Nat):Int)<=((64:Nat):Int);omega⟩,by decide,?_⟩;exact hK
  ·have d0:ZQ (u>0)=ZS:=decide_eq_false h0;have d0':ZQ (0<u)=ZS:=decide_eq_false h0;rw[d0']at hK;simp only[go_sem,Za,Zb,ae,h8,h10,d0];exact hK
def ib {l:List Int} (h:aP H v (iL l)) (hi:i<l.length):∃b o c,v=Z6 (ZV ⟨b,o,ZU⟩) l.length c/\cell H ⟨b,o+i,ZU⟩=ZV (Z8 ZY (l.getD i 0)):=by
 obtain⟨b,o,c,rfl,-,hc⟩:=h.cells (by intro e;have:=congrArg Y8 e;rw[aA,Zx]at this;omega);rw[aA]at hc⊢;have:=hc i hi;rw[dM _ _ hi]at this;exact⟨b,o,c,rfl,this⟩
def agd (hx:sQ P (V.f 394)) {s:List Int} (h6:f 6=sv) (hs:aP A sv (iL s)) (hl:s.length<=1000) (hr:∀u∈s,0<=u/\u<=4)
  (hK:∀w A',br A' w (iL (dA 4 s).1)->(∀q,ay w q->A.size<=q)->af (fun _=>False) A A'->Qb .n (bR (bR f 6 w) 7 (.bool (dA 4 s).2)) A'):vc P (Mb V) Qb f A:=by
 unfold Mb kA kB kF kQ kc kg;simp only[go_sem,Za,Zb,h6];refine(hx s sv 4 A hs hl fun u hu=>by have:=hr u hu;omega).mono ?_;rintro r A1 ⟨w,rfl,O,o,K⟩;rw[ae];simp only[go_sem,Za,Zb];exact hK w A1 O o K
def AlI (F:cf) (ms:List UInt64) (H2:Hp) (n:Nat) (f:Fr) (A:Hp):Prop:=∃pre rest sv ov more,c9 F.st.length=pre++rest/\n=rest.length/\f 7=.bool more/\f 6=sv/\f 5=ov∧
 (more=ZT->∃s xi,rest=s::xi/\yt (ZM F.st.length 0,ZS) rest/\aP A sv (iL s)/\∀q,aV sv q->¬ay ov q)/\(more=ZS->rest=[])/\IZ H2.size A ov (pre.filter (qN F ms))/\af (fun _=>False) H2 A
def xj (P:Program) (k:FuncId):Prop:=∀(F:cf) (ms:List UInt64) (v ev:ZR) (H:Hp),dF H v F->Good F->F.st.length<=5->aP H ev (cj ms)->ms.length=F.st.length->an P k #[v,ev] H fun r H'=>IZ H.size H' r (lX F ms)/\af (fun _=>False) H H'
def ab0 (hk:ak P k (IX V) IY 2) (hh:qD P (V.f 321)) (hx:sQ P (V.f 394)):xj P k:=by
 intro F ms v ev H hv hG hn he mb;refine qI fun Q hQ=>?_;have pg:=hv;obtain⟨s,b,d,a,m,rfl,h1,h2,h3,h4,h5⟩:=hv;refine ah hk (args:=[_,_]) (by simp) ?_;unfold IX IY kA kB kF kC kD ke kG kH kK kL kM kO kQ kR kV kc kg kY kZ;simp only[go_sem,Za,Zb];refine ax fun H1 b2 e1 z1 B1 K1=>?_;have bL:Bl H1 b2 [s,b,d,a,m]:=B1;have s1:=K1.size;have c0:cell H1 ⟨b2,0,ZU⟩=ZV s:=by rw[bL.cell];rfl
 have bnd:(F.st.length:Int)<=281474976710655:=by omega
 simp only[go_sem,Za,Zb,c0,h1.aq,h1.len,al];refine⟨⟨by omega,by omega,by unfold maxLen;omega⟩,?_⟩;refine aG fun H2 bz e2 z2 B2 K2=>?_;rw[dx,rN]at B2;have s2:=K2.size;have cS:=K1.trans K2;have O2:aP H2 (Z6 (ZV ⟨bz,0,ZU⟩) F.st.length F.st.length) (iL (ZM F.st.length 0)):=(br.new (n:=F.st.length) (c:=F.st.length) B2 (by simp[aA]) rfl).sl;obtain⟨hch,L,hL⟩:=Ma F.st.length;simp only[go_sem,Za,Zb];refine aT [17,8,18,19,20,21,9,10,41,11,49,5,6,7] rfl (AlI F ms H2) (c9 F.st.length).length
  ⟨[],c9 F.st.length,Z6 (ZV ⟨bz,0,ZU⟩) F.st.length F.st.length,Z6 ZU 0 0,ZT,rfl,rfl,by simp only[go_sem,Za,Zb,ae],by simp only[go_sem,Za,Zb,ae],by simp only[go_sem,Za,Zb,ae],fun _=>⟨_,L,hL,hch,O2,fun q hq h=>h.elim⟩,(fun h=>by cases h),IZ.nil _ _,af.refl _ _⟩ ?_
 rintro n f A ⟨pre,rest,sv,ov,more,hpr,hnr,f7,f6,f5,hmt,hmf,LO,KA⟩;simp only[go_sem,Za,Zb,ae]at f7 f6 f5
 cases more with
 |false=>
  have hr:=hmf rfl;subst hr;rw[YY]at hpr;simp only[go_sem,Za,Zb,ae,f7,f5];rw[hQ];refine⟨?_,cS.trans KA⟩;obtain⟨ws,a1,a2,a3,a4⟩:=LO;have e:lX F ms=pre.filter (qN F ms):=by unfold lX;rw[hpr]
  rw[e];exact⟨ws,a1,a2,fun q hq=>by have:=a3 q hq;omega,a4⟩
 |true=>
  obtain⟨s,xi,rfl,hcg,hsv,hno⟩:=hmt rfl;have hsm:s∈c9 F.st.length:=by rw[hpr];simp
  obtain⟨hsl,hsr⟩:=gE.1 hsm;have HQ:=cS.trans KA;have amz:pre.length<=3125:=by
   have h1:=congrArg Y8 hpr;rw[mP,List.length_append]at h1;have:5^F.st.length<=5^5:=YO (by omega) hn;omega
  have sA:=KA.size;simp only[go_sem,Za,Zb,ae,f7,f6,hsv.aq,hsv.len,aA,hsl];refine aF F.st.length [21,9,10,8,20] rfl rfl (by omega) (by rfl) (by rfl) (fun j g2 X=>g2 8=.bool (I0 ms s j)/\X=A) ⟨by rfl,rfl⟩ ?_ ?_
  ·rintro j g2 X hj gj gm ⟨g8,rfl⟩;simp only[go_sem,Za,Zb,ae]at gj gm g8;obtain⟨pb,po,pc,pC,Lm⟩:=ib hsv (i:=j) (by omega);have hmem:s.getD j 0∈s:=by rw[ZP,ZO (by omega)];exact ZL _
   simp only[go_sem,Za,Zb,ae,gj,pC,al,Lm];refine⟨by omega,?_⟩;refine agb (ms:=ms) (ev:=ev) (k:=j) (u:=s.getD j 0) (ok:=I0 ms s j) (by rfl) (by simp only[go_sem,Za,Zb,ae,g8]) (by rfl) (by rfl) (he.ai HQ (by simp)) (by omega) (by have:=hsr _ hmem;omega) ?_;simp only[go_sem,Za,Zb,ae];rw[Oc]
  rintro g2 X gj ⟨g8,rfl⟩;simp only[go_sem,Za,Zb,ae]at g8;have hel:I0 ms s F.st.length=Fv ms s:=by unfold I0 Fv;rw[hsl]
  rw[hel]at g8;have IQ:(pre.filter (qN F ms)).length<=1000000:=by
   have:=YS (qN F ms) pre;omega
  have hnx:∀(Z:Ex->Fr->Hp->Prop) (g:Fr) (Y:Hp) (ov':ZR),g 6=sv->g 5=ov'->af (fun _=>False) H2 Y->aP Y sv (iL s)->IZ H2.size Y ov' ((pre++[s]).filter (qN F ms))->(∀q,aV sv q->¬ay ov' q)→
    vc P (Mb V) (uj 1 (vq (AlI F ms H2) n Z)) g Y:=fun Z g Y ov' g6 g5 KY hsY LY nY=>by
   refine agd hx (s:=s) g6 hsY (by omega) hsr fun w Y' O o K'=>?_;simp only[go_sem,Za,Zb,ae];have hp2:c9 F.st.length=(pre++[s])++xi:=by rw[hpr];simp
   have g5':bR (bR g 6 w) 7 (.bool (dA 4 s).2) 5=ov':=by simp only[go_sem,Za,Zb,ae];exact g5
   refine⟨xi.length,by rw[hnr];simp,pre++[s],xi,w,ov',(dA 4 s).2,hp2,rfl,by simp only[go_sem,Za,Zb,ae],by simp only[go_sem,Za,Zb,ae],g5',fun hm=>?_,fun hm=>?_,LY.aj K',KY.trans K'⟩
   ·match xi,hcg with
    |[],hcg=>
     have hcg:dA 4 s=_:=hcg;rw[hcg]at hm;cases hm
    |b'::l',hcg=>
     obtain⟨KV,MN⟩:=hcg;rw[KV]at O;refine⟨b',l',rfl,MN,O.sl,fun q hq h=>?_⟩;obtain⟨ws,a1,a2,a3,a4⟩:=LY;have:=a1.bo h;have:=o q (O.aV hq);omega
   ·match xi,hcg with
    |[],hcg=>rfl
    |b'::l',hcg=>
     rw[hcg.1]at hm;cases hm
  have hval:qN F ms s=(Fv ms s&&ZQ ((eY F s).1=0)):=rfl;have fil:(pre++[s]).filter (qN F ms)=pre.filter (qN F ms)++if qN F ms s=ZT then[s]else[]:=by
   rw[XD];simp only[WL,WD]
  cases hb:Fv ms s with
  |false=>
   rw[hb,Bool.false_and]at hval;rw[hval,if_neg (by simp),YY]at fil;simp only[go_sem,Za,Zb,g8,hb];exact hnx _ _ _ ov (by simp only[go_sem,Za,Zb,ae,f6]) (by simp only[go_sem,Za,Zb,ae,f5]) KA hsv (by rw[fil];exact LO) hno
  |true=>
   rw[hb,Bool.true_and]at hval;have l5:=((K2.trans KA).bl bL (by simp)).aL 5 rfl;simp only[go_sem,Za,Zb,g8,hb,f6,l5];refine(hh F _ sv s X (pg.aj HQ) hG hsv hsl).mono ?_;rintro r Y ⟨rfl,KY⟩;have sY:=KY.size;rw[ae]
   by_cases hz:(eY F s).1=0
   ·have d:(((eY F s).1:Int)==0)=ZT:=by rw[hz];rfl
    rw[decide_eq_true hz]at hval;rw[hval,if_pos rfl]at fil;obtain⟨pa,pcc,rfl,-⟩:=hsv.mk;simp only[go_sem,Za,Zb,d,f5,f6,and_self,true_and];refine aG fun Y2 bb eb zb BB KB=>?_;simp only[go_sem,Za,Zb,ae,f5];refine(LO.aj KY).app (by omega) (hsv.ai KY (by simp)) hno IQ BB KB fun v' Y3 LY K3 o3=>?_;simp only[go_sem,Za,Zb,ae];refine hnx _ _ _ v' (by simp only[go_sem,Za,Zb,ae,f6]) (by rfl) (((KA.trans KY).trans KB).trans' K3 fun q hq h=>by
     obtain⟨ws,a1,a2,a3,a4⟩:=LO;have:=a3 q h;omega) (((hsv.ai KY (by simp)).ai KB (by simp)).ai K3 fun q hq=>hno q hq) (by rw[fil];exact LY) fun q hq h=>?_
    rcases o3 q h with h|h
    ·exact hno q hq h
    ·have:=hsv.bo hq;have:=KB.size;omega
   ·have d:(((eY F s).1:Int)==0)=ZS:=by rw[beq_eq_false_iff_ne];omega
    rw[decide_eq_false hz]at hval;rw[hval,if_neg (by simp),YY]at fil;simp only[go_sem,Za,Zb,d];exact hnx _ _ _ ov (by simp only[go_sem,Za,Zb,ae,f6]) (by simp only[go_sem,Za,Zb,ae,f5]) (KA.trans KY) (hsv.ai KY (by simp)) (by rw[fil];exact LO.aj KY) hno
def Sr (V:aH):S:=
 (.reg [kA 27 6,kF 28 27,kS 29 28 ZT 8,kT 30 28 ZT (.cm .eql ZY (.t 29) (.c (Z8 ZY 0))),kT 31 28 ZT (.mv (.t 30)),kS 32 31 ZS 8,kS 33 31 ZS 5,kS 34 31 ZS 7,kT 35 31 ZS (.is 1 (.t 33) (.t 34)),kT 36 31 ZS (.ld (.t 35)),kT 37 31 ZS (.cm .eql ZY (.t 32) (.t 36)),kT 38 28 ZT (.pick (.t 31) (.c (Z5 ZT)) (.t 37)),kJ 39 28 38,kB 6 39])
def I6 (V:aH):S:=
 kY [kR 1 (V.t 396) 0,kC 2 (kZ)] (kY [kC 3 (kZ)] (.seq (kY [kG 9 0 1,kN 10 5 9,kG 11 5 1,kD 12 11,kd 13 (kg (V.f 395) [.t 10,.t 12]),kO 14 13,kC 15 (Z8 ZY 0)] (.blk 0 (.loop (kY [kH 16 15 14] (.seq (.ite (.v 16) .skip (.exit 0)) (.seq (.blk 1 (kY [kK 17 1 13 15,kD 18 17,kB 5 18] (kY [kC 6 (Z5 ZT)] (.seq (kY [kG 19 6 1,kV 20 (.ld (.t 19)),kO 21 20,kC 22 (Z8 ZY 0)] (.blk 2 (.loop (kY [kH 23 22 21] (.seq (.ite (.v 23) .skip (.exit 2)) (.seq (.blk 3 (kY [kA 24 22,kK 25 1 20 22,kD 26 25,kB 7 24,kB 8 26] (Sr V))) (.reg [ke 40 22,kB 22 40]))))))) (kY [kV 41 (.mv (.v 6))] (.ite (.v 41) (.reg [kA 42 3,kA 43 5,kc 44 (.aX (V.t 138) 1 1 [.t 43]),kc 45 (.app ZS (V.t 138) 1 24 #[kZ] (.t 42) (.t 44)),kB 3 45]) .skip)))))) (.reg [ke 46 15,kB 15 46]))))))) (kY [kA 47 3,kB 2 47] .ret)))
def I7:List RV:=[.t 2]
def I8 (V:aH):S:=
 kY [kR 1 (V.t 396) 0,kC 2 (Z8 ZW 0)] (kY [kC 3 (Z8 ZW 0)] (.seq (kY [kG 6 6 1,kV 7 (.ld (.t 6)),kO 8 7,kC 9 (Z8 ZY 0)] (.blk 0 (.loop (kY [kH 10 9 8] (.seq (.ite (.v 10) .skip (.exit 0)) (.seq (.blk 1 (kY [kA 11 9,kK 12 1 7 9,kD 13 12,kB 4 11,kB 5 13] (kY [kA 14 5,kV 15 (.cm .neq ZY (.t 14) (.c (Z8 ZY 0)))] (.ite (.v 15) (.reg [kA 16 3,kA 17 4,kU 18 (.sh .shl ZW (.c (Z8 ZW 1)) (.t 17)),kU 19 (.bt .or ZW (.t 16) (.t 18)),kB 3 19]) .skip)))) (.reg [ke 20 9,kB 9 20]))))))) (kY [kA 21 3,kB 2 21] .ret)))
def I9:List RV:=[.t 2]
def Ja (V:aH):S:=
 kY [kR 3 (V.t 396) 0,kd 6 (.new (V.t 396) #[kZ,kZ,kZ,kZ,kZ,kZ,kZ])] (kY [kc 8 (.aX (V.t 26) 1 0 []),kG 9 6 3,kD 10 9,kc 11 (.app ZS (V.t 26) 1 8 #[Z8 ZY 0] (.t 8) (.t 10)),kB 7 11] (kY [kA 12 7,kA 13 1,kA 14 2,kI 15 1 12 13,kf (.st (.t 15) (.t 14))] (kY [kG 16 0 3,kN 17 5 16,kG 18 5 3,kD 19 18,kA 20 7,kU 21 (.m (.bld #[kZ,kZ,kZ,kZ,kZ,kZ,kZ] [(0,(5,.t 17)),(5,(1,.t 19)),(6,(1,.t 20))])),kf (.stn 7 (.v 6) (.t 21))] .ret)))
def Jb:List RV:=[.cn 6 7]
def dp (H:Hp) (v:ZR) (F:cf) (ms:List UInt64) (st:List Int):Prop:=∃s b d a m ev sv,v=Z0 #[s,b,d,a,m,ev,sv]/\dF H (Z0 #[s,b,d,a,m]) F/\aP H ev (cj ms)/\aP H sv (iL st)
def dp.aj {st:List Int} (h:dp H v F ms st) (hk:af (fun _=>False) H H'):dp H' v F ms st:=by
 obtain⟨s,b,d,a,m,ev,sv,rfl,h1,h2,h3⟩:=h;exact⟨s,b,d,a,m,ev,sv,rfl,h1.aj hk,h2.ai hk (by simp),h3.ai hk (by simp)⟩
def dF.sl5 (h:dF H (Z0 #[s,b,d,a,m]) F):aq s/\aq b/\aq d/\aq a/\aq m:=by
 obtain⟨s',b',d',a',m',e,h1,h2,h3,h4,h5⟩:=h
 cases e
 exact⟨h1.aq,h2.aq,h3.aq,h4.aq,h5.aq⟩
def sl7 {e:ZR} (h:aq s/\aq b/\aq d/\aq a/\aq m) (he:aq e) (hv:aq v):([s,b,d,a,m,e,v].all fun v=>v.oneCell')=ZT:=by
 obtain⟨h1,h2,h3,h4,h5⟩:=h;simp only[Yc,Xs,Bool.and_true,Bool.and_eq_true];exact⟨aK h1,aK h2,aK h3,aK h4,aK h5,aK he,aK hv⟩
def aia (s b d a m e v:ZR):jx (jx (jx #[Value.slice ZU 0 0,Z6 ZU 0 0,Z6 ZU 0 0,Z6 ZU 0 0,Z6 ZU 0 0,Z6 ZU 0 0,Z6 ZU 0 0] 0 [s,b,d,a,m]) 5 [e]) 6 [v]=#[s,b,d,a,m,e,v]:=rfl
def Oe (s t:List Int) (i:Nat):Bool:=(ZF i).all fun k=>ZQ (s.getD k 0=0)||ZQ (s.getD k 0=t.getD k 0)
def Of (s t:List Int) (i:Nat):Oe s t (i+1)=(Oe s t i&&(ZQ (s.getD i 0=0)||ZQ (s.getD i 0=t.getD i 0))):=by
 unfold Oe;rw[Yg,VS];simp
def age {t:List Int} {tv:ZR} {k:Nat} {ag:Bool} (h5:f 5=tv) (h6:f 6=.bool ag) (h7:f 7=Z8 ZY (k:Int)) (h8:f 8=Z8 ZY u) (ht:aP A tv (iL t)) (hk:k<t.length)
  (hK:Qb .n (bR f 6 (.bool (ag&&(ZQ (u=0)||ZQ (u=t.getD k 0))))) A):vc P (Sr V) Qb f A:=by
 unfold Sr kA kB kF kJ kS kT
 cases ag with
 |false=>
  simp only[go_sem,Za,Zb,ae,h6];exact hK
 |true=>
  by_cases h0:u=0
  ·have d0:(u==0)=ZT:=by rw[h0];rfl
   have d1:ZQ (u=0)=ZT:=decide_eq_true h0;rw[d1]at hK;simp only[go_sem,Za,Zb,ae,h6,h8,d0];exact hK
  ·have d0:(u==0)=ZS:=by simpa using h0
   have d1:ZQ (u=0)=ZS:=decide_eq_false h0;rw[d1]at hK;obtain⟨b,o,c,rfl,hci⟩:=ib ht hk;have d2:(u==t.getD k 0)=ZQ (u=t.getD k 0):=by
    by_cases e:u=t.getD k 0
    ·rw[decide_eq_true e,beq_iff_eq.2 e]
    ·rw[decide_eq_false e,beq_eq_false_iff_ne.2 e]
   simp only[go_sem,Za,Zb,ae,h5,h6,h7,h8,d0,al,hci,d2];refine⟨by omega,?_⟩;exact hK
structure SmG (F:cf) (ms:List UInt64) (st:List Int):Prop where
 g:Good F
 n:F.st.length<=5
 ml:ms.length=F.st.length
 sl:st.length=F.st.length
def qR (P:Program) (k:FuncId):Prop:=∀(F:cf) (ms:List UInt64) (st:List Int) (v:ZR) (H:Hp),dp H v F ms st->SmG F ms st->an P k #[v] H fun r H'=>IZ H.size H' r (eN F ms st)/\af (fun _=>False) H H'
def Ss (F:cf) (ms:List UInt64) (h:F.st.length<=5):(lX F ms).length<=3125:=by
 unfold lX;refine Nat.le_trans (YS _ _) ?_;rw[mP];exact YO (n:=5) (by omega) h
def ab1 (h:i<(lX F ms).length):(lX F ms)[i].length=F.st.length:=by
 have:=ZL h;unfold lX at this;exact mM _ _ (List.mem_filter.1 this).1
def ab2 (hk:ak P k (I6 V) I7 1) (ha:xj P (V.f 395)):qR P k:=by
 intro F ms st v H hv hS;refine qI fun Q hQ=>?_;obtain⟨s,b,d,a,m,ev,sv,rfl,hF,he,hs⟩:=hv;refine ah hk (args:=[_]) (by simp) ?_;unfold I6 I7 kA kB kC kD ke kG kH kK kN kO kR kV kc kd kg kY kZ;simp only[go_sem,Za,Zb];refine ax fun H1 b1 e1 z1 B1 K1=>?_;have bL:Bl H1 b1 [s,b,d,a,m,ev,sv]:=B1;have s1:=K1.size;have c5:cell H1 ⟨b1,5,ZU⟩=ZV ev:=by rw[bL.cell];rfl
 have l5:aQ H1 ⟨b1,0,ZU⟩ 5=ZV #[s,b,d,a,m]:=by
  have:=bL.aQ (o:=0) (n:=5) (by simp);simpa using this
 simp only[go_sem,Za,Zb,c5,l5,aC];refine(ha F ms _ ev H1 (hF.aj K1) hS.g hS.n (he.ai K1 (by simp)) hS.ml).mono ?_;rintro r H2 ⟨⟨vs,O,R,o,rr⟩,K2⟩;have hvl:=R.len;have hal:=Ss F ms hS.n;have cS:=K1.trans K2;have s2:=K2.size;rw[ae];simp only[go_sem,Za,Zb,ae,O.sl.aq,O.sl.len,hvl];refine aF (lX F ms).length [16,5,6,20,21,22,23,7,8,41,3,15] rfl rfl (by omega) (by rfl) (by rfl) (fun i g A=>∃ov,g 3=ov/\IZ H2.size A ov (((lX F ms).take i).filter (jO st))/\af (fun _=>False) H2 A) ⟨_,by simp only[go_sem,Za,Zb,ae],IZ.nil _ _,af.refl _ _⟩ ?_ ?_
 ·rintro i g A hi gi gn ⟨ov,g3,LO,KA⟩;simp only[go_sem,Za,Zb,ae]at gi gn g3;have sA:=KA.size;have OA:=O.sl.ai KA (by simp);have hiv:i<vs.length:=by omega
  obtain⟨rb,ro,rc,fT,-,hld⟩:=OA.cells (by intro e;rw[e]at hiv;simp at hiv);have hld:=hld i hiv;have PJ:=R.at_ i hiv hi;rw[ZO hiv]at hld;obtain⟨t,ht⟩:∃t,t=(lX F ms)[i]:=⟨_,rfl⟩
  have htl:t.length=F.st.length:=by rw[ht];exact ab1 hi
  rw[<-ht]at PJ;obtain⟨x,hx⟩:∃x,x=vs[i]:=⟨_,rfl⟩
  rw[<-hx]at hld PJ;obtain⟨pa,pcc,hxe,-⟩:=PJ.mk;rw[aA]at hxe;subst hxe;have c6:cell A ⟨b1,6,ZU⟩=ZV sv:=by rw[((K2.trans KA).bl bL (by simp)).cell];rfl
  have hsA:=hs.ai (cS.trans KA) (by simp);have hsl:=hS.sl;have hn5:=hS.n;simp only[go_sem,Za,Zb,ae,gi,fT,al,hld,c6,hsA.aq,hsA.len,aA];refine⟨by omega,?_⟩;refine aF st.length [23,7,8,6,22] rfl rfl (by omega) (by rfl) (by rfl) (fun j g2 X=>g2 6=.bool (Oe st t j)/\X=A) ⟨by rfl,rfl⟩ ?_ ?_
  ·rintro j g2 X hj gj gm ⟨g6,rfl⟩;simp only[go_sem,Za,Zb,ae]at gj gm g6;obtain⟨pb,po,pc,pC,Lm⟩:=ib hsA hj;simp only[go_sem,Za,Zb,ae,gj,pC,al,Lm];refine⟨by omega,?_⟩;refine age (t:=t) (k:=j) (u:=st.getD j 0) (ag:=Oe st t j) (by rfl) (by simp only[go_sem,Za,Zb,ae,g6]) (by rfl) (by rfl) (PJ.ai KA (by simp)) (by omega) ?_;simp only[go_sem,Za,Zb,ae];rw[Of]
  ·rintro g2 X gj ⟨g6,rfl⟩;simp only[go_sem,Za,Zb,ae]at g6;have hag:Oe st t st.length=jO st t:=rfl;rw[hag]at g6;have Pn:((lX F ms).take (i+1)).filter (jO st)=((lX F ms).take i).filter (jO st)++if jO st t=ZT then[t]else[]:=by
    rw[cZ hi,XD,<-ht];simp only[WL,WD]
   have IQ:(((lX F ms).take i).filter (jO st)).length<=1000000:=by
    have:=YS (jO st) ((lX F ms).take i);rw[List.length_take]at this;omega
   cases hb:jO st t with
   |false=>
    simp only[go_sem,Za,Zb,ae,g6,hb,g3];refine⟨ov,rfl,?_,KA⟩;rw[Pn,hb,if_neg (by simp),YY];exact LO
   |true=>
    simp only[go_sem,Za,Zb,g6,hb,g3,and_self,true_and];refine aG fun A2 bb eb zb BB KB=>?_;simp only[go_sem,Za,Zb,ae,g3];refine LO.app (by omega) (PJ.ai KA (by simp)) (fun q hq h=>by
     have:=PJ.bo hq;obtain⟨ws,_,_,oW,_⟩:=LO;have:=oW q h;omega) IQ BB KB fun v' A' LO' K' o'=>?_
    simp only[go_sem,Za,Zb,ae];refine⟨v',rfl,?_,(KA.trans KB).trans' K' fun q hq h=>by
     obtain⟨ws,_,_,oW,_⟩:=LO;have:=oW q h;omega⟩
    rw[Pn,hb,if_pos rfl];exact LO'
 ·rintro g A gi ⟨ov,g3,LO,KA⟩;simp only[go_sem,Za,Zb,ae]at g3;simp only[go_sem,Za,Zb,ae,g3];rw[hQ];rw[ZI]at LO;obtain⟨ws,a1,a2,a3,a4⟩:=LO;exact⟨⟨ws,a1,a2,fun q hq=>by have:=a3 q hq;omega,a4⟩,cS.trans KA⟩
def qS (P:Program) (k:FuncId):Prop:=∀(F:cf) (ms:List UInt64) (st:List Int) (v:ZR) (H:Hp),dp H v F ms st->st.length<=10->an P k #[v] H fun r H'=>r=Z8 ZW (F5 st st.length).toNat/\af (fun _=>False) H H'
def ab3 (hk:ak P k (I8 V) I9 1):qS P k:=by
 intro F ms st v H hv hl;refine qI fun Q hQ=>?_;obtain⟨s,b,d,a,m,ev,sv,rfl,hF,he,hs⟩:=hv;refine ah hk (args:=[_]) (by simp) ?_;unfold I8 I9 kA kB kC kD ke kG kH kK kO kR kU kV kY;simp only[go_sem,Za,Zb];refine ax fun H1 b1 e1 z1 B1 K1=>?_;have bL:Bl H1 b1 [s,b,d,a,m,ev,sv]:=B1;have c6:cell H1 ⟨b1,6,ZU⟩=ZV sv:=by rw[bL.cell];rfl
 have hs1:=hs.ai K1 (by simp);simp only[go_sem,Za,Zb,ae,c6,hs1.aq,hs1.len,aA];refine aF st.length [10,4,5,15,3,9] rfl rfl (by omega) (by rfl) (by rfl) (fun i g A=>g 3=Z8 ZW (F5 st i).toNat/\A=H1) ⟨by rfl,rfl⟩ ?_ ?_
 ·rintro i g A hi gi gn ⟨g3,rfl⟩;simp only[go_sem,Za,Zb,ae]at gi gn g3;obtain⟨pb,po,pc,pC,hci⟩:=ib hs1 hi
  by_cases h0:st.getD i 0=0
  ·have d0:(st.getD i 0 !=0)=ZS:=by rw[h0];rfl
   simp only[go_sem,Za,Zb,ae,gi,pC,al,hci,d0,g3];refine⟨by omega,?_⟩;rw[F5,if_neg (by simpa using h0)]
  ·have d0:(st.getD i 0 !=0)=ZT:=by simpa using h0
   have Rc:((i:Int)).toNat=i:=by omega
   have hor:bits .or ZW ((F5 st i).toNat:Int) (IntKind.u64.wrap (1*2^i))=((Gk (F5 st i) i).toNat:Int):=Gz _ i (by omega);simp only[go_sem,Za,Zb,ae,gi,pC,al,hci,d0,g3,Rc,hor];refine⟨by omega,⟨by omega,by omega⟩,?_⟩;rw[F5,if_pos h0]
 ·rintro g A gi ⟨g3,rfl⟩;simp only[go_sem,Za,Zb,ae]at g3;simp only[go_sem,Za,Zb,ae,g3];rw[hQ];exact⟨rfl,K1⟩
def qT (P:Program) (k:FuncId):Prop:=∀(F:cf) (ms:List UInt64) (st:List Int) (i:Nat) (u:Int) (v:ZR) (H:Hp),dp H v F ms st->st.length<=1000->i<st.length->an P k #[v,Z8 ZY (i:Int),Z8 ZY u] H fun r H'=>dp H' r F ms (st.set i u)/\af (fun _=>False) H H'
def ab4 (hk:ak P k (Ja V) Jb 3):qT P k:=by
 intro F ms st i u v H hv hl hi;refine qI fun Q hQ=>?_;obtain⟨s,b,d,a,m,ev,sv,rfl,hF,he,hs⟩:=hv;obtain⟨ea,ec,rfl,-⟩:=he.mk;refine ah hk (args:=[_,_,_]) (by simp) ?_;unfold Ja Jb kA kB kD kG kI kN kR kU kc kd kf kY kZ;simp only[go_sem,Za,Zb];refine ax fun H1 b1 e1 z1 B1 K1=>?_;have bL:Bl H1 b1 [s,b,d,a,m,.slice ea (cj ms).length ec,sv]:=B1;simp only[go_sem,Za,Zb];refine ax fun H2 b6 e2 z2 B2 K2=>?_;have fG:Bl H2 b6 [Z6 ZU 0 0,Z6 ZU 0 0,Z6 ZU 0 0,Z6 ZU 0 0,Z6 ZU 0 0,Z6 ZU 0 0,Z6 ZU 0 0]:=B2;have cS:=K1.trans K2;have s1:=K1.size;have s2:=K2.size;simp only[go_sem,Za,Zb];refine aG fun H3 bz e3 z3 B3 K3=>?_;have eo:=cS.trans K3;have s3:=K3.size;have jv:=(K2.trans K3).bl bL (by simp);have c6:cell H3 ⟨b1,6,ZU⟩=ZV sv:=by rw[jv.cell];rfl
 have lsv:(iL st).length=st.length:=aA st;simp only[go_sem,Za,Zb,c6];refine ja H2.size (l:=([]:List ZR)) (m:=iL st) (br.new B3 rfl rfl) (fun q (hq:q=bz)=>by omega) (by omega) (hs.ai eo (by simp)) (gT _) rfl (by omega) (by simp[aA];omega) fun w H4 O4 o4 K4=>?_;rw[List.nil_append]at O4;have K24:=K3.gK K4 (Nat.le_refl _);have oF:=cS.trans K24;have yk:=(K2.trans K24).bl bL (by simp);have B64:=K24.bl fG id;obtain⟨wb,wc,L,fT,h1,h2,hB,h3,h4⟩:=O4.some (by intro e';have:=congrArg Y8 e';rw[aA,Zx]at this;omega);rw[aA]at fT h1 h3;subst fT;have hb2:=o4 wb rfl;have ts:=hB.bw (o:=i) (by omega);have O5:=rM hB (l:=iL st) (by rw[aA];exact h1) h2 (by rw[aA];exact h3) i (Z8 ZY u) (by rw[aA];exact hi);rw[mq,aA]at O5;have K5:af (fun q=>q=wb) H4 (az H4 ⟨wb,i,ZU⟩ (Z8 ZY u)):=(af.refl _ _).az _ (.inl rfl);rw[ae];simp only[go_sem,Za,Zb,al,ts];refine⟨by omega,?_⟩;generalize az H4 ⟨wb,i,ZU⟩ (Z8 ZY u)=H5 at O5 K5⊢;have K25:af (fun _=>False) H2 H5:=K24.trans' K5 fun q hq e=>by omega
 have GB:=K5.bl yk (by omega);have B65:=K5.bl B64 (by omega);have l5:aQ H5 ⟨b1,0,ZU⟩ 5=ZV #[s,b,d,a,m]:=by
  have:=GB.aQ (o:=0) (n:=5) (by simp);simpa using this
 have c5:cell H5 ⟨b1,5,ZU⟩=ZV (.slice ea (cj ms).length ec):=by rw[GB.cell];rfl
 have t6:=B65.bG (o:=0) (n:=7) (by simp);have ha:bM #[s,b,d,a,m,.slice ea (cj ms).length ec,Z6 (ZV ⟨wb,0,ZU⟩) st.length wc]:=aU (sl7 hF.sl5 he.aq trivial);rw[ae];simp-implicitDefEqProofs only[go_sem,↓reduceIte,Za,Zb,Zc,reduceCtorEq,Zf,Zg,Zh,Zi,Zd,Ze,l5,c5,aC,t6,aia];refine⟨ha,?_⟩;rw[ae];have C6:=B65.aB 0 [s,b,d,a,m,.slice ea (cj ms).length ec,Z6 (ZV ⟨wb,0,ZU⟩) st.length wc];have K6:af (fun q=>q=b6) H5 (aB H5 ⟨b6,0,ZU⟩ [s,b,d,a,m,.slice ea (cj ms).length ec,Z6 (ZV ⟨wb,0,ZU⟩) st.length wc]):=(af.refl _ _).aB _ (.inl rfl);have C6':Bl (aB H5 ⟨b6,0,ZU⟩ [s,b,d,a,m,.slice ea (cj ms).length ec,Z6 (ZV ⟨wb,0,ZU⟩) st.length wc]) b6 [s,b,d,a,m,.slice ea (cj ms).length ec,Z6 (ZV ⟨wb,0,ZU⟩) st.length wc]:=C6;have K1F:af (fun _=>False) H1 (aB H5 ⟨b6,0,ZU⟩ [s,b,d,a,m,.slice ea (cj ms).length ec,Z6 (ZV ⟨wb,0,ZU⟩) st.length wc]):=(K2.trans K25).trans' K6 fun q hq e=>by omega
 simp only[go_sem,Za,Zb,ae,C6'.aL 7 rfl];rw[hQ];refine⟨⟨s,b,d,a,m,_,_,rfl,hF.aj (K1.trans K1F),he.ai (K1.trans K1F) (by simp),?_⟩,K1.trans K1F⟩;exact O5.sl.ai K6 fun q hq e=>by
  have h:q=wb:=O5.aV hq;have hw:H2.size<=wb:=hb2;omega
def St (V:aH):S:=
 (.reg [kA 23 7,kF 24 23,kS 25 24 ZS 9,kS 26 24 ZS 1,kT 27 24 ZS (.cm .eql ZY (.t 25) (.t 26)),kU 28 (.pick (.t 24) (.c (Z5 ZT)) (.t 27)),kB 7 28])
def Sv (V:aH):S:=
 (.reg [kA 32 2,kU 33 (.cm .lss ZY (.t 32) (.c (Z8 ZY 1))),kF 34 33,kS 35 34 ZS 2,kT 36 34 ZS (.cm .gtr ZY (.t 35) (.c (Z8 ZY 4))),kU 37 (.pick (.t 34) (.c (Z5 ZT)) (.t 36)),kF 38 37,kT 39 38 ZS (.fa 5 (.v 3)),kT 40 38 ZS (.ld (.t 39)),kS 41 38 ZS 1,kT 42 38 ZS (.is 1 (.t 40) (.t 41)),kT 43 38 ZS (.ld (.t 42)),kS 44 38 ZS 2,kT 45 38 ZS (.sh .shr ZW (.t 43) (.t 44)),kT 46 38 ZS (.dv .rem ZW (.t 45) (.c (Z8 ZW 2))),kT 47 38 ZS (.cm .eql ZW (.t 46) (.c (Z8 ZW 0))),kV 48 (.pick (.t 38) (.c (Z5 ZT)) (.t 47))])
def Jc (V:aH):S:=
 kY [kR 3 (V.t 396) 0,kC 6 (Z8 ZY 0)] (kY [kC 7 (Z5 ZS)] (.seq (.seq (.dr (kW 13 (.fa 0 (.v 3)) (kW 14 (.m (.ldn 5 (.t 13))) (kW 15 (.m (.ldn 7 (.v 3))) (kX 19 (.mv (.c (Z8 ZY 0))) (ka 16 (kg (V.f 398) [.t 15]) (.wcons (.v 17) .none (kg (V.f 308) [.t 14,.t 16]) (kX 18 (.m (.lenl (.v 17))) .done) .wnil) .wnil)))))) (.blk 0 (.loop (kY [kH 20 19 18] (.seq (.ite (.v 20) .skip (.exit 0)) (.seq (.blk 1 (kY [kK 21 1 17 19,kD 22 21,kB 9 22] (St V))) (.reg [ke 29 19,kB 19 29]))))))) (.seq (kY [kA 30 7,kV 31 (.not (.t 30))] (.ite (.v 31) (kY [kC 6 (Z8 ZY 2)] .ret) .skip)) (.seq (.seq (Sv V) (.ite (.v 48) (kY [kC 6 (Z8 ZY 3)] .ret) .skip)) (kY [kM 49 7 3,kA 50 1,kA 51 2,kc 52 (kg (V.f 399) [.t 49,.t 50,.t 51]),kd 10 (.new (V.t 396) #[kZ,kZ,kZ,kZ,kZ,kZ,kZ]),kf (.stn 7 (.v 10) (.t 52))] (.seq (kY [kG 54 0 3,kN 55 5 54,kG 56 6 10,kD 57 56,kc 58 (kg (V.f 321) [.t 55,.t 57]),kF 53 58,kQ 59 53 0,kQ 60 53 1,kB 11 59,kF 12 60] (kY [kA 61 11,kV 62 (.cm .neq ZY (.t 61) (.c (Z8 ZY 0)))] (.ite (.v 62) (kY [kC 6 (Z8 ZY 4)] .ret) .skip))) (.seq (kY [kM 63 7 10,kc 64 (kg (V.f 397) [.t 63]),kL 65 64,kV 66 (.cm .eql ZY (.t 65) (.c (Z8 ZY 0)))] (.ite (.v 66) (kY [kC 6 (Z8 ZY 5)] .ret) .skip)) (kY [kC 6 (Z8 ZY 1)] .ret))))))))
def Jd:List RV:=[.t 6]
structure ali (P:Program) (V:aH):Prop where
 don:qS P (V.f 398)
 F1:qA P (V.f 308)
 wth:qT P (V.f 399)
 hld:qD P (V.f 321)
 cmp:qR P (V.f 397)
def agf {k step:Int} {rd:Bool} (h1:f 1=Z8 ZY step) (h7:f 7=.bool rd) (h9:f 9=Z8 ZY k) (hK:Qb .n (bR f 7 (.bool (rd||ZQ (k=step)))) A):vc P (St V) Qb f A:=by
 unfold St kA kB kF kS kT kU;have d:(k==step)=ZQ (k=step):=by
  by_cases e:k=step
  ·rw[decide_eq_true e,beq_iff_eq.2 e]
  ·rw[decide_eq_false e,beq_eq_false_iff_ne.2 e]
 cases rd with
 |true=>simp only[go_sem,Za,Zb,ae,h7];exact hK
 |false=>simp only[go_sem,Za,Zb,ae,h1,h7,h9,d];exact hK
def agh {b3 step:Nat} {user:Int} (h1:f 1=Z8 ZY (step:Int)) (h2:f 2=Z8 ZY user) (h3:f 3=Z7 (ZV ⟨b3,0,ZU⟩)) (B:Bl A b3 [s,b,d,a,m,ev,sv])
  (he:aP A ev (cj ms)) (hk:step<ms.length) (hK:Qb .n (bR f 48 (.bool (ZQ (user<1\/4<user\/bt (ms.getD step 0) user.toNat=ZS)))) A):vc P (Sv V) Qb f A:=by
 unfold Sv kA kF kS kT kU kV
 by_cases h0:user<1
 ·have d0:ZQ (user<1)=ZT:=decide_eq_true h0;rw[decide_eq_true (.inl h0)]at hK;simp only[go_sem,Za,Zb,ae,h2,d0];exact hK
 have d0:ZQ (user<1)=ZS:=decide_eq_false h0
 by_cases h4:4<user
 ·have d1:ZQ (user>4)=ZT:=decide_eq_true h4;rw[decide_eq_true (.inr (.inl h4))]at hK;simp only[go_sem,Za,Zb,ae,h2,d0,d1];exact hK
 have d1:ZQ (user>4)=ZS:=decide_eq_false h4;obtain⟨pb,po,pc,rfl,-,hc⟩:=he.cells (by intro e;have:=congrArg Y8 e;rw[aI,Zx]at this;omega);have hci:=hc step (by rw[aI];exact hk);rw[dW _ _ hk]at hci;have hln:(cj ms).length=ms.length:=aI _;rw[hln]at B;obtain⟨j,rfl⟩:∃j:Nat,user=(j:Int):=⟨user.toNat,by omega⟩
 rw[Zo]at hK;have agc:((j:Int)).toNat=j:=by omega
 have c5:cell A ⟨b3,5,ZU⟩=ZV (Z6 (ZV ⟨pb,po,ZU⟩) ms.length pc):=by rw[B.cell];rfl
 have e:ZQ ((j:Int)<1\/4<(j:Int)\/bt (ms.getD step 0) j=ZS)=!bt (ms.getD step 0) j:=by
  rw[YU];simp only[decide_eq_true_eq,Bool.not_eq_true']
  constructor
  ·rintro(h|h|h)
   ·omega
   ·omega
   ·exact h
  ·exact fun h=>.inr (.inr h)
 rw[e]at hK;simp only[go_sem,Za,Zb,ae,h1,h2,h3,d0,d1,c5,al,hci,agc,qz];refine⟨by omega,⟨by omega,by show((j:Nat):Int)<=((64:Nat):Int);omega⟩,by decide,?_⟩;exact hK
def xk (P:Program) (k:FuncId):Prop:=∀(F:cf) (ms:List UInt64) (st:List Int) (step user:Int) (v:ZR) (H:Hp),dp H v F ms st->SmG F ms st->an P k #[v,Z8 ZY step,Z8 ZY user] H fun r H'=>r=Z8 ZY (iP F ms st step user)/\af (fun _=>False) H H'
def ab5 (hk:ak P k (Jc V) Jd 3) (c:ali P V):xk P k:=by
 intro F ms st step user v H hv hS;refine qI fun Q hQ=>?_;have pg:=hv;have hn:=hS.n;have mb:=hS.ml;have hsl:=hS.sl;have hG:=hS.g;have su:=hG.lim;unfold iJ at su;obtain⟨s,b,d,a,m,ev,sv,rfl,hF,he,hs⟩:=hv;refine ah hk (args:=[_,_,_]) (by simp) ?_;unfold Jc Jd kA kB kF kC kD ke kG kH kK kL kM kN kQ kR kV kW kX ka kc kd kf kg kY kZ;simp only[go_sem,Za,Zb];refine ax fun H1 b3 e1 z1 B1 K1=>?_;have bL:Bl H1 b3 [s,b,d,a,m,ev,sv]:=B1;have l5:aQ H1 ⟨b3,0,ZU⟩ 5=ZV #[s,b,d,a,m]:=by
  have:=bL.aQ (o:=0) (n:=5) (by simp);simpa using this
 simp only[go_sem,Za,Zb];refine aZ (fun _=>False) ?_;simp only[go_sem,Za,Zb,ae,l5,aC,bL.aL 7 rfl];refine(c.don F ms st _ H1 (pg.aj K1) (by omega)).mono ?_;rintro r H2 ⟨rfl,K2⟩;simp only[go_sem,Za,Zb,ae];refine⟨K2,(c.F1 F _ (F5 st st.length) H2 (hF.aj (K1.trans K2)) (by omega) (by omega) fun x hx=>(hG.be x hx).1).mono ?_⟩;rintro r H3 ⟨O3,o3,K3⟩;obtain⟨rl,UK⟩:∃rl,rl=nW F.st.length F.be (bt (F5 st st.length)):=⟨_,rfl⟩
 have hrn:=wK F.st.length F.be (bt (F5 st st.length));rw[<-UK]at O3 hrn;have eo:=(K1.trans K2).trans K3;have inl:(iN rl).length=rl.length:=bH rl;simp only[go_sem,Za,Zb,ae,O3.sl.aq,O3.sl.len,inl];refine⟨K3,?_⟩;refine aF rl.length [20,9,7,19] rfl rfl (by omega) (by rfl) (by rfl) (fun i g A=>g 7=.bool (ZQ (step∈nI (rl.take i)))/\A=H3) ⟨by simp only[go_sem,Za,Zb,ae];simp[nI],rfl⟩ ?_ ?_
 ·rintro i g A hi gi gn ⟨g7,rfl⟩;simp only[go_sem,Za,Zb,ae]at gi gn g7;obtain⟨pb,po,pc,pC,hci⟩:=ib (l:=nI rl) O3.sl (by rw[vY];exact hi);have hgi:(nI rl).getD i 0=((rl[i]:Nat):Int):=by simp[nI,ZP,hi]
  rw[hgi]at hci;rw[vY]at pC;simp only[go_sem,Za,Zb,ae,gi,pC,al,hci];refine⟨by omega,?_⟩;refine agf (k:=((rl[i]:Nat):Int)) (step:=step) (rd:=ZQ (step∈nI (rl.take i))) (by rfl) (by simp only[go_sem,Za,Zb,ae,g7]) (by rfl) ?_;simp only[go_sem,Za,Zb,ae];have:nI (rl.take (i+1))=nI (rl.take i)++[((rl[i]:Nat):Int)]:=by unfold nI;rw[cZ hi,List.map_append];rfl
  rw[this]
  congr 1
  rw[YU];simp only[Bool.or_eq_true,decide_eq_true_eq,List.mem_append,XC]
  constructor
  ·rintro(h|h)
   ·exact .inl h
   ·exact .inr h.symm
  ·rintro(h|h)
   ·exact .inl h
   ·exact .inr h.symm
 rintro g A gi ⟨g7,rfl⟩;simp only[go_sem,Za,Zb,ae]at g7;rw[ZI]at g7;have hR:iP F ms st step user=if step∈nI rl then
  if user<1\/4<user\/bt (ms.getD step.toNat 0) user.toNat=ZS then 3 else
  if(eY F (st.set step.toNat user)).1≠0 then 4 else if eN F ms (st.set step.toNat user)=[]then 5 else 1
 else 2:=by unfold iP;rw[<-UK]
 by_cases hm:step∈nI rl
 case neg=>
  rw[if_neg hm]at hR;rw[decide_eq_false hm]at g7;simp only[go_sem,Za,Zb,ae,g7,ZB];rw[hQ];exact⟨by rw[hR],eo⟩
 rw[if_pos hm]at hR;rw[decide_eq_true hm]at g7;obtain⟨j,rfl,hj⟩:∃j:Nat,step=(j:Int)/\j<F.st.length:=by
  unfold nI at hm;obtain⟨j,hj,rfl⟩:=List.mem_map.1 hm;rw[UK]at hj;exact⟨j,rfl,(xh.1 hj).1⟩
 rw[Zo]at hR;simp only[go_sem,Za,Zb,g7,ZE];have B3:=(K2.trans K3).bl bL (by simp);refine agh (b3:=b3) (step:=j) (user:=user) (ms:=ms) (by rfl) (by rfl) (by rfl) B3 (he.ai eo (by simp)) (by omega) ?_
 by_cases hq:user<1\/4<user\/bt (ms.getD j 0) user.toNat=ZS
 ·rw[if_pos hq]at hR;rw[decide_eq_true hq];simp only[go_sem,Za,Zb,ae];rw[hQ];exact⟨by rw[hR],eo⟩
 rw[if_neg hq]at hR;rw[decide_eq_false hq];simp only[go_sem,Za,Zb,B3.aL 7 rfl];refine(c.wth F ms st j user _ _ (pg.aj eo) (by omega) (by omega)).mono ?_;rintro r H4 ⟨R4,K4⟩;have R40:=R4;obtain⟨s',b',d',a',m',Cw,tV,rfl,hF',he',cI⟩:=R4;have oF:=eo.trans K4;rw[ae];simp only[go_sem,Za,Zb];refine aO [s',b',d',a',m',Cw,tV] (by rfl) rfl rfl (sl7 hF'.sl5 he'.aq cI.aq) fun H5 b10 e5 z5 B5 K5=>?_;have B35:=(K4.trans K5).bl B3 (by simp);have l53:aQ H5 ⟨b3,0,ZU⟩ 5=ZV #[s,b,d,a,m]:=by
  have:=B35.aQ (o:=0) (n:=5) (by simp);simpa using this
 have c6:cell H5 ⟨b10,6,ZU⟩=ZV tV:=by rw[B5.cell];rfl
 have DS:=oF.trans K5;simp only[go_sem,Za,Zb,l53,aC,c6];refine(c.hld F _ tV (st.set j user) H5 (hF.aj DS) hG (cI.ai K5 (by simp)) (by rw[YE];exact hsl)).mono ?_;rintro r H6 ⟨rfl,K6⟩;have DQ:=DS.trans K6;rw[ae]
 by_cases hz:(eY F (st.set j user)).1=0
 case neg=>
  rw[if_pos hz]at hR;have d:(((eY F (st.set j user)).1:Int)!=0)=ZT:=by rw[bne_iff_ne];omega
  simp only[go_sem,Za,Zb,ae,d];rw[hQ];exact⟨by rw[hR],DQ⟩
 rw[if_neg (by simpa using hz)]at hR;have d:(((eY F (st.set j user)).1:Int)!=0)=ZS:=by rw[hz];rfl
 have B56:=K6.bl B5 id;simp only[go_sem,Za,Zb,d,B56.aL 7 rfl];refine(c.cmp F ms (st.set j user) _ H6 (R40.aj (K5.trans K6)) ⟨hG,hn,mb,by rw[YE];exact hsl⟩).mono ?_;rintro r H7 ⟨⟨vs,O7,R7,-,-⟩,K7⟩;have Fs:=DQ.trans K7;rw[ae];have hl7:=R7.len
 cases hcm:eN F ms (st.set j user)with
 |nil=>
  rw[if_pos hcm]at hR;rw[hcm,Zx]at hl7;have d2:(((0:Nat):Int)==0)=ZT:=rfl;simp only[go_sem,Za,Zb,ae,O7.sl.aq,O7.sl.len,hl7,d2];rw[hQ];exact⟨by rw[hR],Fs⟩
 |cons x xs=>
  rw[if_neg (by rw[hcm];simp)]at hR;rw[hcm,List.length_cons]at hl7;have d2:(((xs.length+1:Nat):Int)==0)=ZS:=by rw[beq_eq_false_iff_ne];omega
  simp only[go_sem,Za,Zb,ae,O7.sl.aq,O7.sl.len,hl7,d2];rw[hQ];exact⟨by rw[hR],Fs⟩
end Go.Mg
