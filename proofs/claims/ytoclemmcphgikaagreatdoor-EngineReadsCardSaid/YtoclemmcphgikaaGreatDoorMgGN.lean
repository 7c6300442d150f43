/- Lemmas of ours. No conditions. -/
import Derived.Test.YtoclemmcphgikaaGreatDoorMgE4
open Nat renaming reduceEqDiff→Za,reduceAdd→Zb
set_option linter.all false
set_option maxRecDepth 100000
namespace Go.Mg
open Go Go.RowKit
def Qf (ι:aG):S:=
 (.reg [kA 25 8,kF 26 25,kS 27 26 true 10,kT 28 26 true (.cm .gtr .i64 (.t 27) (.c (.int .i64 0))),kJ 29 26 28,kF 30 29,kS 31 30 true 1,kS 32 30 true 9,kT 33 30 true (.is 1 (.t 31) (.t 32)),kT 34 30 true (.ld (.t 33)),kS 35 30 true 10,kT 36 30 true (.sh .shr .u64 (.t 34) (.t 35)),kT 37 30 true (.dv .rem .u64 (.t 36) (.c (.int .u64 2))),kT 38 30 true (.cm .eql .u64 (.t 37) (.c (.int .u64 1))),kJ 39 30 38,kB 8 39])
def Jy (ι:aG):S:=
 (.reg [kA 55 6,.e (.t 56) (.call (ι.f 394) [.t 55,.c (.int .i64 4)]),kF 54 56,kQ 57 54 0,kQ 58 54 1,kB 6 57,kB 7 58])
def Hd (ι:aG):S:=
 kY [kR 2 (ι.t 289) 0,kC 4 (kZ)] (kY [kC 5 (kZ)] (kY [kG 13 0 2,kD 14 13,kL 15 14,.e (.t 16) (.qf (ι.t 26) 1 8 #[.int .i64 0] (.t 15) (.t 15)),kB 6 16] (.seq (kY [kC 7 (.bool true)] (.blk 0 (.loop (.seq (kY [kV 17 (.mv (.v 7))] (.ite (.v 17) .skip (.exit 0))) (.blk 1 (kY [kC 8 (.bool true)] (.seq (kY [kV 18 (.mv (.v 6)),kO 19 18,kC 20 (.int .i64 0)] (.blk 2 (.loop (kY [kH 21 20 19] (.seq (.ite (.v 21) .skip (.exit 2)) (.seq (.blk 3 (kY [kA 22 20,kK 23 1 18 20,kD 24 23,kB 9 22,kB 10 24] (Qf ι))) (.reg [ke 40 20,kB 20 40]))))))) (.seq (kY [kV 41 (.mv (.v 8))] (.ite (.v 41) (kY [kM 43 5 2,kA 44 6,.e (.t 45) (.call (ι.f 321) [.t 43,.t 44]),kF 42 45,kQ 46 42 0,kQ 47 42 1,kB 11 46,kF 12 47] (kY [kA 48 11,kV 49 (.cm .eql .i64 (.t 48) (.c (.int .i64 0)))] (.ite (.v 49) (.reg [kA 50 5,kA 51 6,.e (.t 52) (.aV (ι.t 138) 1 1 [.t 51]),.e (.t 53) (.app false (ι.t 138) 1 24 #[kZ] (.t 50) (.t 52)),kB 5 53]) .skip))) .skip)) (Jy ι))))))))) (kY [kA 59 5,kB 4 59] .ret))))
def He:List RV:=[.t 4]
structure Sb (H:Hp) (vs:List Value) (ls:List (List Int)):Prop where
 len:vs.length=ls.length
 at_:∀i (h:i<vs.length) (h':i<ls.length),aO H vs[i] (iL ls[i])
variable {H H' A:Hp} {vs:List Value} {ls:List (List Int)} {C:Nat} {v sv:Value} {s:List Int} {P:Program} {ι:aG} {f:Fr} {Qb:Ex->Fr->Hp->Prop}
theorem Sb.ai {W:Nat->Prop} (h:Sb H vs ls) (hk:af W H H') (hw:∀x∈vs,∀q,aT x q->¬W q):Sb H' vs ls:=
 ⟨h.len,fun i h1 h2=>(h.at_ i h1 h2).ai hk fun q hq=>hw _ (List.getElem_mem h1) q hq⟩
theorem Sb.aj (h:Sb H vs ls) (hk:af (fun _=>False) H H'):Sb H' vs ls:=h.ai hk fun _ _ _ _ h=>h
theorem Sb.snoc (h:Sb H vs ls) {x:Value} {y:List Int} (h2:aO H x (iL y)):Sb H (vs++[x]) (ls++[y]):=by
 refine⟨by simp[h.len],fun i hi oh=>?_⟩
 by_cases e:i<vs.length
 ·rw[List.getElem_append_left e,List.getElem_append_left (by rw[<-h.len];exact e)];exact h.at_ i e (by rw[<-h.len];exact e)
 ·have mU:i=vs.length:=by simp at hi;omega
  subst mU;have e1:(vs++[x])[vs.length]=x:=by simp
  have e2:(ls++[y])[vs.length]'oh=y:=by
   have:=h.len;simp[this]
  rw[e1,e2];exact h2
def Hf (C:Nat) (H:Hp) (v:Value) (ls:List (List Int)):Prop:=∃vs,bq H v vs/\Sb H vs ls/\(∀q,ax v q->C<=q)/\∀x∈vs,∀q,aT x q->¬ax v q
theorem Hf.aj (h:Hf C H v ls) (hk:af (fun _=>False) H H'):Hf C H' v ls:=by
 obtain⟨vs,h1,h2,h3⟩:=h;exact⟨vs,h1.ai hk (by simp),h2.aj hk,h3⟩
theorem Hf.nil (C:Nat) (H:Hp):Hf C H (.slice none 0 0) []:=⟨[],bq.nil _,⟨rfl,fun i h=>by simp at h⟩,fun q h=>h.elim,fun x h=>by simp at h⟩
theorem Hf.app {bb:Nat} {A2:Hp} {ov:Value} (h:Hf C A ov ls) (hC:C<=A.size) (hs:aO A sv (iL s)) (hn:∀q,aT sv q->¬ax ov q) (hl:ls.length<=1000000) (BB:Bl A2 bb [sv]) (KB:af (fun _=>False) A A2)
  {T:TypeId} {K:Value->Hp->Prop} (hK:∀v' A',Hf C A' v' (ls++[s])->af (ax ov) A2 A'->(∀q,ax v' q->ax ov q\/A2.size<=q)->K v' A'):iM false T 1 24 #[.slice none 0 0] ov (.slice (some ⟨bb,0,none⟩) 1 1) A2 K:=by
 obtain⟨vs,OA,RA,oA,rA⟩:=h;have sA:=KB.size;have h1:bO #[sv]:=bd (by simp only[List.all_cons,List.all_nil,aI hs.aq];rfl);have hv:=RA.len;refine gU (OA.ai KB (by simp)) (aO.bl BB 0 1 1 (by omega) (by simp)) h1 rfl (by unfold maxLen;simp;omega) (by simp;omega) fun v' A3 O3 K3 o3=>?_;have hown:∀q,ax ov q->q<A.size:=fun q hq=>OA.bj hq;have hvs:∀z∈vs,∀q,aT z q->q<A.size:=fun z hz q hq=>by
  obtain⟨j,hj,rfl⟩:=List.getElem_of_mem hz;exact(RA.at_ j hj (by rw[<-RA.len];exact hj)).bj hq
 refine hK v' A3 ⟨vs++[sv],O3,((RA.aj KB).ai K3 fun z hz q hq=>rA z hz q hq).snoc ((hs.ai KB (by simp)).ai K3 fun q hq=>hn q hq),fun q hq=>?_,fun z hz q hq=>?_⟩ K3 o3
 ·rcases o3 q hq with h|h
  ·exact oA q h
  ·omega
 ·rcases List.mem_append.1 hz with hz|hz
  ·intro h;rcases o3 q h with h|h
   ·exact rA z hz q hq h
   ·have:=hvs z hz q hq;omega
  ·simp only[List.mem_singleton]at hz;subst hz;intro h;rcases o3 q h with h|h
   ·exact hn q hq h
   ·have:=hs.bj hq;omega
def Hg (ms:List UInt64) (s:List Int) (i:Nat):Bool:=(List.range i).all fun k=>decide (0<s.getD k 0)&&bt (ms.getD k 0) (s.getD k 0).toNat
theorem LI (ms:List UInt64) (s:List Int) (i:Nat):Hg ms s (i+1)=(Hg ms s i&&(decide (0<s.getD i 0)&&bt (ms.getD i 0) (s.getD i 0).toNat)):=by
 unfold Hg;rw[List.range_succ,List.all_append];simp
theorem Qg (x:UInt64) (i:Nat):((((x.toNat:Int)/2^i).tmod 2)==1)=bt x i:=by
 have h:=vk x i;have e:((x.toNat:Int)/2^i)=((x.toNat/2^i:Nat):Int):=by simp
 have e2:(((x.toNat/2^i:Nat):Int)).tmod 2=((x.toNat/2^i % 2:Nat):Int):=cg _ 2;rw[e,e2]at h⊢;have:x.toNat/2^i % 2<2:=Nat.mod_lt _ (by omega)
 cases hb:bt x i with
 |true=>
  rw[hb]at h;simp only[Bool.not_true,beq_eq_false_iff_ne,ne_eq]at h;rw[beq_iff_eq];omega
 |false=>
  rw[hb]at h;simp only[Bool.not_false,beq_iff_eq]at h;rw[beq_eq_false_iff_ne];omega
theorem aaa {ms:List UInt64} {ev:Value} {k:Nat} {u:Int} {ok:Bool} (h1:f 1=ev) (h8:f 8=.bool ok) (h9:f 9=.int .i64 (k:Int)) (h10:f 10=.int .i64 u) (he:aO A ev (cN ms)) (hk:k<ms.length) (hu:u<=4)
  (hK:Qb .n (bL f 8 (.bool (ok&&(decide (0<u)&&bt (ms.getD k 0) u.toNat)))) A):vc P (Qf ι) Qb f A:=by
 unfold Qf kA kB kF kJ kS kT
 cases ok with
 |false=>
  simp only[go_sem,Za,Zb,ae,h8];exact hK
 |true=>
  by_cases h0:0<u
  ·have d0:decide (u>0)=true:=decide_eq_true h0;have d0':decide (0<u)=true:=decide_eq_true h0;rw[d0']at hK;obtain⟨b,o,c,rfl,-,hc⟩:=he.cells (by intro e;have:=congrArg List.length e;rw[aH,List.length_nil]at this;omega);have hci:=hc k (by rw[aH];exact hk);rw[dT _ _ hk]at hci;have hln:(cN ms).length=ms.length:=aH _;obtain⟨j,rfl⟩:∃j:Nat,u=(j:Int):=⟨u.toNat,by omega⟩
   rw[Int.toNat_natCast]at hK;have ae1:((j:Int)).toNat=j:=by omega
   rw[hln]at h1;simp only[go_sem,Za,Zb,ae,h1,h8,h9,h10,d0,ak,hci,ae1,Qg];refine⟨by omega,⟨by omega,by show((j:Nat):Int)<=((64:Nat):Int);omega⟩,by decide,?_⟩;exact hK
  ·have d0:decide (u>0)=false:=decide_eq_false h0;have d0':decide (0<u)=false:=decide_eq_false h0;rw[d0']at hK;simp only[go_sem,Za,Zb,ae,h8,h10,d0];exact hK
theorem fB {l:List Int} (h:aO H v (iL l)) {i:Nat} (hi:i<l.length):∃b o c,v=.slice (some ⟨b,o,none⟩) l.length c/\cell H ⟨b,o+i,none⟩=some (.int .i64 (l.getD i 0)):=by
 obtain⟨b,o,c,rfl,-,hc⟩:=h.cells (by intro e;have:=congrArg List.length e;rw[aA,List.length_nil]at this;omega);rw[aA]at hc⊢;have:=hc i hi;rw[dk _ _ hi]at this;exact⟨b,o,c,rfl,this⟩
theorem aab (hx:qV P (ι.f 394)) (h6:f 6=sv) (hs:aO A sv (iL s)) (hl:s.length<=1000) (hr:∀u∈s,0<=u/\u<=4)
  (hK:∀w A',bq A' w (iL (cY 4 s).1)->(∀q,ax w q->A.size<=q)->af (fun _=>False) A A'->Qb .n (bL (bL f 6 w) 7 (.bool (cY 4 s).2)) A'):vc P (Jy ι) Qb f A:=by
 unfold Jy kA kB kF kQ;simp only[go_sem,Za,Zb,h6];refine(hx s sv 4 A hs hl fun u hu=>by have:=hr u hu;omega).mono ?_;rintro r A1 ⟨w,rfl,O,o,K⟩;rw[ae];simp only[go_sem,Za,Zb];exact hK w A1 O o K
def AlI (F:cf) (ms:List UInt64) (H2:Hp) (n:Nat) (f:Fr) (A:Hp):Prop:=∃pre rest sv ov more,cL F.st.length=pre++rest/\n=rest.length/\f 7=.bool more/\f 6=sv/\f 5=ov∧
 (more=true->∃s vL,rest=s::vL/\xg (List.replicate F.st.length 0,false) rest/\aO A sv (iL s)/\∀q,aT sv q->¬ax ov q)/\(more=false->rest=[])/\Hf H2.size A ov (pre.filter (sJ F ms))/\af (fun _=>False) H2 A
def vM (P:Program) (k:FuncId):Prop:=∀(F:cf) (ms:List UInt64) (v ev:Value) (H:Hp),c9 H v F->Good F->F.st.length<=5->aO H ev (cN ms)->ms.length=F.st.length->an P k #[v,ev] H fun r H'=>Hf H.size H' r (lU F ms)/\af (fun _=>False) H H'
theorem UK {k:FuncId} (hk:al P k (Hd ι) He 2) (hh:vq P (ι.f 321)) (hx:qV P (ι.f 394)):vM P k:=by
 intro F ms v ev H hv hG hn he nQ;refine qI fun Q hQ=>?_;have pV:=hv;obtain⟨s,b,d,a,m,rfl,h1,h2,h3,h4,h5⟩:=hv;refine ah hk (args:=[_,_]) (by simp) ?_;unfold Hd He kA kB kF kC kD ke kG kH kK kL kM kO kQ kR kV kY kZ;simp only[go_sem,Za,Zb];refine ay fun H1 b2 e1 z1 B1 K1=>?_;have bQ:Bl H1 b2 [s,b,d,a,m]:=B1;have s1:=K1.size;have c0:cell H1 ⟨b2,0,none⟩=some s:=by rw[bQ.cell];rfl
 have Xr:(F.st.length:Int)<=281474976710655:=by omega
 simp only[go_sem,Za,Zb,c0,h1.aq,h1.len,ak];refine⟨⟨by omega,by omega,by unfold maxLen;omega⟩,?_⟩;refine aF fun H2 bz e2 z2 B2 K2=>?_;rw[cT,qj]at B2;have s2:=K2.size;have dB:=K1.trans K2;have O2:aO H2 (.slice (some ⟨bz,0,none⟩) F.st.length F.st.length) (iL (List.replicate F.st.length 0)):=(bq.new (n:=F.st.length) (c:=F.st.length) B2 (by simp[aA]) rfl).sl;obtain⟨hch,L,hL⟩:=Jx F.st.length;simp only[go_sem,Za,Zb];refine aS [17,8,18,19,20,21,9,10,41,11,49,5,6,7] rfl (AlI F ms H2) (cL F.st.length).length
  ⟨[],cL F.st.length,.slice (some ⟨bz,0,none⟩) F.st.length F.st.length,.slice none 0 0,true,rfl,rfl,by simp only[go_sem,Za,Zb,ae],by simp only[go_sem,Za,Zb,ae],by simp only[go_sem,Za,Zb,ae],fun _=>⟨_,L,hL,hch,O2,fun q hq h=>h.elim⟩,(fun h=>by cases h),Hf.nil _ _,af.refl _ _⟩ ?_
 rintro n f A ⟨pre,rest,sv,ov,more,hpr,hnr,f7,f6,f5,hmt,hmf,LO,KA⟩;simp only[go_sem,Za,Zb,ae]at f7 f6 f5
 cases more with
 |false=>
  have hr:=hmf rfl;subst hr;rw[List.append_nil]at hpr;simp only[go_sem,Za,Zb,ae,f7,f5];rw[hQ];refine⟨?_,dB.trans KA⟩;obtain⟨ws,a1,a2,a3,a4⟩:=LO;have e:lU F ms=pre.filter (sJ F ms):=by unfold lU;rw[hpr]
  rw[e];exact⟨ws,a1,a2,fun q hq=>by have:=a3 q hq;omega,a4⟩
 |true=>
  obtain⟨s,vL,rfl,hcg,hsv,hno⟩:=hmt rfl;have hsm:s∈cL F.st.length:=by rw[hpr];simp
  obtain⟨hsl,hsr⟩:=ib.1 hsm;have Jo:=dB.trans KA;have af2:pre.length<=3125:=by
   have h1:=congrArg List.length hpr;rw[lT,List.length_append]at h1;have:5^F.st.length<=5^5:=Nat.pow_le_pow_right (by omega) hn;omega
  have sA:=KA.size;simp only[go_sem,Za,Zb,ae,f7,f6,hsv.aq,hsv.len,aA,hsl];refine aD F.st.length [21,9,10,8,20] rfl rfl (by omega) (by rfl) (by rfl) (fun j g2 X=>g2 8=.bool (Hg ms s j)/\X=A) ⟨by rfl,rfl⟩ ?_ ?_
  ·rintro j g2 X hj gj gm ⟨g8,rfl⟩;simp only[go_sem,Za,Zb,ae]at gj gm g8;obtain⟨pb,po,pc,qm,IP⟩:=fB hsv (i:=j) (by omega);have hmem:s.getD j 0∈s:=by rw[List.getD_eq_getElem?_getD,List.getElem?_eq_getElem (by omega)];exact List.getElem_mem _
   simp only[go_sem,Za,Zb,ae,gj,qm,ak,IP];refine⟨by omega,?_⟩;refine aaa (ms:=ms) (ev:=ev) (k:=j) (u:=s.getD j 0) (ok:=Hg ms s j) (by rfl) (by simp only[go_sem,Za,Zb,ae,g8]) (by rfl) (by rfl) (he.ai Jo (by simp)) (by omega) (by have:=hsr _ hmem;omega) ?_;simp only[go_sem,Za,Zb,ae];rw[LI]
  rintro g2 X gj ⟨g8,rfl⟩;simp only[go_sem,Za,Zb,ae]at g8;have hel:Hg ms s F.st.length=Hc ms s:=by unfold Hg Hc;rw[hsl]
  rw[hel]at g8;have LA:(pre.filter (sJ F ms)).length<=1000000:=by
   have:=List.length_filter_le (sJ F ms) pre;omega
  have hnx:∀(Z:Ex->Fr->Hp->Prop) (g:Fr) (Y:Hp) (ov':Value),g 6=sv->g 5=ov'->af (fun _=>False) H2 Y->aO Y sv (iL s)->Hf H2.size Y ov' ((pre++[s]).filter (sJ F ms))->(∀q,aT sv q->¬ax ov' q)→
    vc P (Jy ι) (ss 1 (tW (AlI F ms H2) n Z)) g Y:=fun Z g Y ov' g6 g5 KY hsY LY nY=>by
   refine aab hx (s:=s) g6 hsY (by omega) hsr fun w Y' O o K'=>?_;simp only[go_sem,Za,Zb,ae];have hp2:cL F.st.length=(pre++[s])++vL:=by rw[hpr];simp
   have g5':bL (bL g 6 w) 7 (.bool (cY 4 s).2) 5=ov':=by simp only[go_sem,Za,Zb,ae];exact g5
   refine⟨vL.length,by rw[hnr];simp,pre++[s],vL,w,ov',(cY 4 s).2,hp2,rfl,by simp only[go_sem,Za,Zb,ae],by simp only[go_sem,Za,Zb,ae],g5',fun hm=>?_,fun hm=>?_,LY.aj K',KY.trans K'⟩
   ·match vL,hcg with
    |[],hcg=>
     have hcg:cY 4 s=_:=hcg;rw[hcg]at hm;cases hm
    |b'::l',hcg=>
     obtain⟨Mq,MK⟩:=hcg;rw[Mq]at O;refine⟨b',l',rfl,MK,O.sl,fun q hq h=>?_⟩;obtain⟨ws,a1,a2,a3,a4⟩:=LY;have:=a1.bj h;have:=o q (O.aT hq);omega
   ·match vL,hcg with
    |[],hcg=>rfl
    |b'::l',hcg=>
     rw[hcg.1]at hm;cases hm
  have hval:sJ F ms s=(Hc ms s&&decide ((fQ F s).1=0)):=rfl;have fil:(pre++[s]).filter (sJ F ms)=pre.filter (sJ F ms)++if sJ F ms s=true then[s]else[]:=by
   rw[List.filter_append];simp only[List.filter_cons,List.filter_nil]
  cases hb:Hc ms s with
  |false=>
   rw[hb,Bool.false_and]at hval;rw[hval,if_neg (by simp),List.append_nil]at fil;simp only[go_sem,Za,Zb,g8,hb];exact hnx _ _ _ ov (by simp only[go_sem,Za,Zb,ae,f6]) (by simp only[go_sem,Za,Zb,ae,f5]) KA hsv (by rw[fil];exact LO) hno
  |true=>
   rw[hb,Bool.true_and]at hval;have l5:=((K2.trans KA).bl bQ (by simp)).aM 5 rfl;simp only[go_sem,Za,Zb,g8,hb,f6,l5];refine(hh F _ sv s X (pV.aj Jo) hG hsv hsl).mono ?_;rintro r Y ⟨rfl,KY⟩;have sY:=KY.size;rw[ae]
   by_cases hz:(fQ F s).1=0
   ·have d:(((fQ F s).1:Int)==0)=true:=by rw[hz];rfl
    rw[decide_eq_true hz]at hval;rw[hval,if_pos rfl]at fil;obtain⟨pa,pcc,rfl,-⟩:=hsv.mk;simp only[go_sem,Za,Zb,d,f5,f6,and_self,true_and];refine aF fun Y2 bb eb zb BB KB=>?_;simp only[go_sem,Za,Zb,ae,f5];refine(LO.aj KY).app (by omega) (hsv.ai KY (by simp)) hno LA BB KB fun v' Y3 LY K3 o3=>?_;simp only[go_sem,Za,Zb,ae];refine hnx _ _ _ v' (by simp only[go_sem,Za,Zb,ae,f6]) (by rfl) (((KA.trans KY).trans KB).trans' K3 fun q hq h=>by
     obtain⟨ws,a1,a2,a3,a4⟩:=LO;have:=a3 q h;omega) (((hsv.ai KY (by simp)).ai KB (by simp)).ai K3 fun q hq=>hno q hq) (by rw[fil];exact LY) fun q hq h=>?_
    rcases o3 q h with h|h
    ·exact hno q hq h
    ·have:=hsv.bj hq;have:=KB.size;omega
   ·have d:(((fQ F s).1:Int)==0)=false:=by rw[beq_eq_false_iff_ne];omega
    rw[decide_eq_false hz]at hval;rw[hval,if_neg (by simp),List.append_nil]at fil;simp only[go_sem,Za,Zb,d];exact hnx _ _ _ ov (by simp only[go_sem,Za,Zb,ae,f6]) (by simp only[go_sem,Za,Zb,ae,f5]) (KA.trans KY) (hsv.ai KY (by simp)) (by rw[fil];exact LO.aj KY) hno
end Go.Mg
namespace Go.Mg
open Go Go.RowKit
def Qh (ι:aG):S:=
 (.reg [kA 27 6,kF 28 27,kS 29 28 true 8,kT 30 28 true (.cm .eql .i64 (.t 29) (.c (.int .i64 0))),kT 31 28 true (.mv (.t 30)),kS 32 31 false 8,kS 33 31 false 5,kS 34 31 false 7,kT 35 31 false (.is 1 (.t 33) (.t 34)),kT 36 31 false (.ld (.t 35)),kT 37 31 false (.cm .eql .i64 (.t 32) (.t 36)),kT 38 28 true (.pick (.t 31) (.c (.bool true)) (.t 37)),kJ 39 28 38,kB 6 39])
def Hh (ι:aG):S:=
 kY [kR 1 (ι.t 396) 0,kC 2 (kZ)] (kY [kC 3 (kZ)] (.seq (kY [kG 9 0 1,kN 10 5 9,kG 11 5 1,kD 12 11,.e (.v 13) (.call (ι.f 395) [.t 10,.t 12]),kO 14 13,kC 15 (.int .i64 0)] (.blk 0 (.loop (kY [kH 16 15 14] (.seq (.ite (.v 16) .skip (.exit 0)) (.seq (.blk 1 (kY [kK 17 1 13 15,kD 18 17,kB 5 18] (kY [kC 6 (.bool true)] (.seq (kY [kG 19 6 1,kV 20 (.ld (.t 19)),kO 21 20,kC 22 (.int .i64 0)] (.blk 2 (.loop (kY [kH 23 22 21] (.seq (.ite (.v 23) .skip (.exit 2)) (.seq (.blk 3 (kY [kA 24 22,kK 25 1 20 22,kD 26 25,kB 7 24,kB 8 26] (Qh ι))) (.reg [ke 40 22,kB 22 40]))))))) (kY [kV 41 (.mv (.v 6))] (.ite (.v 41) (.reg [kA 42 3,kA 43 5,.e (.t 44) (.aV (ι.t 138) 1 1 [.t 43]),.e (.t 45) (.app false (ι.t 138) 1 24 #[kZ] (.t 42) (.t 44)),kB 3 45]) .skip)))))) (.reg [ke 46 15,kB 15 46]))))))) (kY [kA 47 3,kB 2 47] .ret)))
def Hi:List RV:=[.t 2]
def Hj (ι:aG):S:=
 kY [kR 1 (ι.t 396) 0,kC 2 (.int .u64 0)] (kY [kC 3 (.int .u64 0)] (.seq (kY [kG 6 6 1,kV 7 (.ld (.t 6)),kO 8 7,kC 9 (.int .i64 0)] (.blk 0 (.loop (kY [kH 10 9 8] (.seq (.ite (.v 10) .skip (.exit 0)) (.seq (.blk 1 (kY [kA 11 9,kK 12 1 7 9,kD 13 12,kB 4 11,kB 5 13] (kY [kA 14 5,kV 15 (.cm .neq .i64 (.t 14) (.c (.int .i64 0)))] (.ite (.v 15) (.reg [kA 16 3,kA 17 4,kU 18 (.sh .shl .u64 (.c (.int .u64 1)) (.t 17)),kU 19 (.bt .or .u64 (.t 16) (.t 18)),kB 3 19]) .skip)))) (.reg [ke 20 9,kB 9 20]))))))) (kY [kA 21 3,kB 2 21] .ret)))
def Hk:List RV:=[.t 2]
def dY (H:Hp) (v:Value) (F:cf) (ms:List UInt64) (st:List Int):Prop:=∃s b d a m ev sv,v=.agg #[s,b,d,a,m,ev,sv]/\c9 H (.agg #[s,b,d,a,m]) F/\aO H ev (cN ms)/\aO H sv (iL st)
variable {H:Hp} {v s b d a m:Value} {F:cf} {ms:List UInt64} {P:Program} {ι:aG} {k:FuncId}
theorem dY.aj {H':Hp} {st:List Int} (h:dY H v F ms st) (hk:af (fun _=>False) H H'):dY H' v F ms st:=by
 obtain⟨s,b,d,a,m,ev,sv,rfl,h1,h2,h3⟩:=h;exact⟨s,b,d,a,m,ev,sv,rfl,h1.aj hk,h2.ai hk (by simp),h3.ai hk (by simp)⟩
theorem c9.sl5 (h:c9 H (.agg #[s,b,d,a,m]) F):aq s/\aq b/\aq d/\aq a/\aq m:=by
 obtain⟨s',b',d',a',m',e,h1,h2,h3,h4,h5⟩:=h
 cases e
 exact⟨h1.aq,h2.aq,h3.aq,h4.aq,h5.aq⟩
theorem sl7 {e:Value} (h:aq s/\aq b/\aq d/\aq a/\aq m) (he:aq e) (hv:aq v):([s,b,d,a,m,e,v].all fun v=>v.oneCell')=true:=by
 obtain⟨h1,h2,h3,h4,h5⟩:=h;simp only[List.all_cons,List.all_nil,Bool.and_true,Bool.and_eq_true];exact⟨aI h1,aI h2,aI h3,aI h4,aI h5,aI he,aI hv⟩
theorem ae2 (s b d a m e v:Value):iW (iW (iW #[Value.slice none 0 0,.slice none 0 0,.slice none 0 0,.slice none 0 0,.slice none 0 0,.slice none 0 0,.slice none 0 0] 0 [s,b,d,a,m]) 5 [e]) 6 [v]=#[s,b,d,a,m,e,v]:=rfl
def LJ (s t:List Int) (i:Nat):Bool:=(List.range i).all fun k=>decide (s.getD k 0=0)||decide (s.getD k 0=t.getD k 0)
theorem LK (s t:List Int) (i:Nat):LJ s t (i+1)=(LJ s t i&&(decide (s.getD i 0=0)||decide (s.getD i 0=t.getD i 0))):=by
 unfold LJ;rw[List.range_succ,List.all_append];simp
theorem aac {f:Fr} {A:Hp} {t:List Int} {tv:Value} {k:Nat} {u:Int} {ag:Bool} {Qb:Ex->Fr->Hp->Prop} (h5:f 5=tv) (h6:f 6=.bool ag) (h7:f 7=.int .i64 (k:Int)) (h8:f 8=.int .i64 u) (ht:aO A tv (iL t)) (hk:k<t.length)
  (hK:Qb .n (bL f 6 (.bool (ag&&(decide (u=0)||decide (u=t.getD k 0))))) A):vc P (Qh ι) Qb f A:=by
 unfold Qh kA kB kF kJ kS kT
 cases ag with
 |false=>
  simp only[go_sem,Za,Zb,ae,h6];exact hK
 |true=>
  by_cases h0:u=0
  ·have d0:(u==0)=true:=by rw[h0];rfl
   have d1:decide (u=0)=true:=decide_eq_true h0;rw[d1]at hK;simp only[go_sem,Za,Zb,ae,h6,h8,d0];exact hK
  ·have d0:(u==0)=false:=by simpa using h0
   have d1:decide (u=0)=false:=decide_eq_false h0;rw[d1]at hK;obtain⟨b,o,c,rfl,hci⟩:=fB ht hk;have d2:(u==t.getD k 0)=decide (u=t.getD k 0):=by
    by_cases e:u=t.getD k 0
    ·rw[decide_eq_true e,beq_iff_eq.2 e]
    ·rw[decide_eq_false e,beq_eq_false_iff_ne.2 e]
   simp only[go_sem,Za,Zb,ae,h5,h6,h7,h8,d0,ak,hci,d2];refine⟨by omega,?_⟩;exact hK
structure SmG (F:cf) (ms:List UInt64) (st:List Int):Prop where
 g:Good F
 n:F.st.length<=5
 ml:ms.length=F.st.length
 sl:st.length=F.st.length
def vN (P:Program) (k:FuncId):Prop:=∀(F:cf) (ms:List UInt64) (st:List Int) (v:Value) (H:Hp),dY H v F ms st->SmG F ms st->an P k #[v] H fun r H'=>Hf H.size H' r (qW F ms st)/\af (fun _=>False) H H'
theorem Qi (F:cf) (ms:List UInt64) (h:F.st.length<=5):(lU F ms).length<=3125:=by
 unfold lU;refine Nat.le_trans (List.length_filter_le _ _) ?_;rw[lT];exact Nat.pow_le_pow_right (n:=5) (by omega) h
theorem UL {i:Nat} (h:i<(lU F ms).length):(lU F ms)[i].length=F.st.length:=by
 have:=List.getElem_mem h;unfold lU at this;exact lQ _ _ (List.mem_filter.1 this).1
theorem UM (hk:al P k (Hh ι) Hi 1) (ha:vM P (ι.f 395)):vN P k:=by
 intro F ms st v H hv hS;refine qI fun Q hQ=>?_;obtain⟨s,b,d,a,m,ev,sv,rfl,hF,he,hs⟩:=hv;refine ah hk (args:=[_]) (by simp) ?_;unfold Hh Hi kA kB kC kD ke kG kH kK kN kO kR kV kY kZ;simp only[go_sem,Za,Zb];refine ay fun H1 b1 e1 z1 B1 K1=>?_;have bQ:Bl H1 b1 [s,b,d,a,m,ev,sv]:=B1;have s1:=K1.size;have c5:cell H1 ⟨b1,5,none⟩=some ev:=by rw[bQ.cell];rfl
 have l5:aR H1 ⟨b1,0,none⟩ 5=some #[s,b,d,a,m]:=by
  have:=bQ.aR (o:=0) (n:=5) (by simp);simpa using this
 simp only[go_sem,Za,Zb,c5,l5,aC];refine(ha F ms _ ev H1 (hF.aj K1) hS.g hS.n (he.ai K1 (by simp)) hS.ml).mono ?_;rintro r H2 ⟨⟨vs,O,R,o,rr⟩,K2⟩;have hvl:=R.len;have hal:=Qi F ms hS.n;have dB:=K1.trans K2;have s2:=K2.size;rw[ae];simp only[go_sem,Za,Zb,ae,O.sl.aq,O.sl.len,hvl];refine aD (lU F ms).length [16,5,6,20,21,22,23,7,8,41,3,15] rfl rfl (by omega) (by rfl) (by rfl) (fun i g A=>∃ov,g 3=ov/\Hf H2.size A ov (((lU F ms).take i).filter (jV st))/\af (fun _=>False) H2 A) ⟨_,by simp only[go_sem,Za,Zb,ae],Hf.nil _ _,af.refl _ _⟩ ?_ ?_
 ·rintro i g A hi gi gn ⟨ov,g3,LO,KA⟩;simp only[go_sem,Za,Zb,ae]at gi gn g3;have sA:=KA.size;have OA:=O.sl.ai KA (by simp);have hiv:i<vs.length:=by omega
  obtain⟨rb,ro,rc,gz,-,hld⟩:=OA.cells (by intro e;rw[e]at hiv;simp at hiv);have hld:=hld i hiv;have MU:=R.at_ i hiv hi;rw[List.getElem?_eq_getElem hiv]at hld;obtain⟨t,ht⟩:∃t,t=(lU F ms)[i]:=⟨_,rfl⟩
  have htl:t.length=F.st.length:=by rw[ht];exact UL hi
  rw[<-ht]at MU;obtain⟨x,hx⟩:∃x,x=vs[i]:=⟨_,rfl⟩
  rw[<-hx]at hld MU;obtain⟨pa,pcc,hxe,-⟩:=MU.mk;rw[aA]at hxe;subst hxe;have c6:cell A ⟨b1,6,none⟩=some sv:=by rw[((K2.trans KA).bl bQ (by simp)).cell];rfl
  have hsA:=hs.ai (dB.trans KA) (by simp);have hsl:=hS.sl;have hn5:=hS.n;simp only[go_sem,Za,Zb,ae,gi,gz,ak,hld,c6,hsA.aq,hsA.len,aA];refine⟨by omega,?_⟩;refine aD st.length [23,7,8,6,22] rfl rfl (by omega) (by rfl) (by rfl) (fun j g2 X=>g2 6=.bool (LJ st t j)/\X=A) ⟨by rfl,rfl⟩ ?_ ?_
  ·rintro j g2 X hj gj gm ⟨g6,rfl⟩;simp only[go_sem,Za,Zb,ae]at gj gm g6;obtain⟨pb,po,pc,qm,IP⟩:=fB hsA hj;simp only[go_sem,Za,Zb,ae,gj,qm,ak,IP];refine⟨by omega,?_⟩;refine aac (t:=t) (k:=j) (u:=st.getD j 0) (ag:=LJ st t j) (by rfl) (by simp only[go_sem,Za,Zb,ae,g6]) (by rfl) (by rfl) (MU.ai KA (by simp)) (by omega) ?_;simp only[go_sem,Za,Zb,ae];rw[LK]
  ·rintro g2 X gj ⟨g6,rfl⟩;simp only[go_sem,Za,Zb,ae]at g6;have hag:LJ st t st.length=jV st t:=rfl;rw[hag]at g6;have MB:((lU F ms).take (i+1)).filter (jV st)=((lU F ms).take i).filter (jV st)++if jV st t=true then[t]else[]:=by
    rw[cW hi,List.filter_append,<-ht];simp only[List.filter_cons,List.filter_nil]
   have LA:(((lU F ms).take i).filter (jV st)).length<=1000000:=by
    have:=List.length_filter_le (jV st) ((lU F ms).take i);rw[List.length_take]at this;omega
   cases hb:jV st t with
   |false=>
    simp only[go_sem,Za,Zb,ae,g6,hb,g3];refine⟨ov,rfl,?_,KA⟩;rw[MB,hb,if_neg (by simp),List.append_nil];exact LO
   |true=>
    simp only[go_sem,Za,Zb,g6,hb,g3,and_self,true_and];refine aF fun A2 bb eb zb BB KB=>?_;simp only[go_sem,Za,Zb,ae,g3];refine LO.app (by omega) (MU.ai KA (by simp)) (fun q hq h=>by
     have:=MU.bj hq;obtain⟨ws,_,_,oW,_⟩:=LO;have:=oW q h;omega) LA BB KB fun v' A' LO' K' o'=>?_
    simp only[go_sem,Za,Zb,ae];refine⟨v',rfl,?_,(KA.trans KB).trans' K' fun q hq h=>by
     obtain⟨ws,_,_,oW,_⟩:=LO;have:=oW q h;omega⟩
    rw[MB,hb,if_pos rfl];exact LO'
 ·rintro g A gi ⟨ov,g3,LO,KA⟩;simp only[go_sem,Za,Zb,ae]at g3;simp only[go_sem,Za,Zb,ae,g3];rw[hQ];rw[List.take_length]at LO;obtain⟨ws,a1,a2,a3,a4⟩:=LO;exact⟨⟨ws,a1,a2,fun q hq=>by have:=a3 q hq;omega,a4⟩,dB.trans KA⟩
def vP (P:Program) (k:FuncId):Prop:=∀(F:cf) (ms:List UInt64) (st:List Int) (v:Value) (H:Hp),dY H v F ms st->st.length<=10->an P k #[v] H fun r H'=>r=.int .u64 (LH st st.length).toNat/\af (fun _=>False) H H'
theorem UN (hk:al P k (Hj ι) Hk 1):vP P k:=by
 intro F ms st v H hv hl;refine qI fun Q hQ=>?_;obtain⟨s,b,d,a,m,ev,sv,rfl,hF,he,hs⟩:=hv;refine ah hk (args:=[_]) (by simp) ?_;unfold Hj Hk kA kB kC kD ke kG kH kK kO kR kU kV kY;simp only[go_sem,Za,Zb];refine ay fun H1 b1 e1 z1 B1 K1=>?_;have bQ:Bl H1 b1 [s,b,d,a,m,ev,sv]:=B1;have c6:cell H1 ⟨b1,6,none⟩=some sv:=by rw[bQ.cell];rfl
 have hs1:=hs.ai K1 (by simp);simp only[go_sem,Za,Zb,ae,c6,hs1.aq,hs1.len,aA];refine aD st.length [10,4,5,15,3,9] rfl rfl (by omega) (by rfl) (by rfl) (fun i g A=>g 3=.int .u64 (LH st i).toNat/\A=H1) ⟨by rfl,rfl⟩ ?_ ?_
 ·rintro i g A hi gi gn ⟨g3,rfl⟩;simp only[go_sem,Za,Zb,ae]at gi gn g3;obtain⟨pb,po,pc,qm,hci⟩:=fB hs1 hi
  by_cases h0:st.getD i 0=0
  ·have d0:(st.getD i 0 !=0)=false:=by rw[h0];rfl
   simp only[go_sem,Za,Zb,ae,gi,qm,ak,hci,d0,g3];refine⟨by omega,?_⟩;rw[LH,if_neg (by simpa using h0)]
  ·have d0:(st.getD i 0 !=0)=true:=by simpa using h0
   have OV:((i:Int)).toNat=i:=by omega
   have hor:bits .or .u64 ((LH st i).toNat:Int) (IntKind.u64.wrap (1*2^i))=((EV (LH st i) i).toNat:Int):=E9 _ i (by omega);simp only[go_sem,Za,Zb,ae,gi,qm,ak,hci,d0,g3,OV,hor];refine⟨by omega,⟨by omega,by omega⟩,?_⟩;rw[LH,if_pos h0]
 ·rintro g A gi ⟨g3,rfl⟩;simp only[go_sem,Za,Zb,ae]at g3;simp only[go_sem,Za,Zb,ae,g3];rw[hQ];exact⟨rfl,K1⟩
end Go.Mg
namespace Go.Mg
open Go Go.RowKit
end Go.Mg
