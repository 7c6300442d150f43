/- Lemmas of ours. No conditions. -/
import Derived.Test.YteeemadonfcliabGreatDoorMgQ3
import Derived.Test.YteeemadonfcliabGreatDoorMgE4
open Nat renaming reduceEqDiff→Za,reduceAdd→Zb,reduceMul→Zc,reduceLeDiff→Zd,reduceLT→Ze
open Int renaming reduceBEq→Zf,reduceBNe→Zg,reduceLE→Zh,reduceLT→Zi
set_option linter.all false
set_option maxRecDepth 100000
namespace Go.Mg
open Go Go.RowKit
def DN (ι:aC):S:=
 kY [kd 2 (.new (ι.t 296) #[kZ,kZ,kZ,kZ,kZ])] (kY [kd 3 (.new (ι.t 296) #[kZ,kZ,kZ,kZ,kZ])] (.seq (kY [kV 6 (.mv (.v 0)),kC 7 (.int .i64 0)] (.blk 0 (.loop (kY [kH 8 7 6] (.seq (.ite (.v 8) .skip (.exit 0)) (.seq (.blk 1 (kY [kA 9 7,kB 4 9] (kY [kG 10 0 3,kD 11 10,kA 12 4,kU 13 (.ar .add .i64 (.c (.int .i64 48)) (.t 12)),kU 14 (.ii .u8 (.t 13)),kc 15 (.bF (ι.t 19) 1 2 [.c (.int .u8 115),.t 14]),kU 16 (.m (.b2s (.t 15))),kU 17 (.m (.gz #[.string ⟨#[]⟩,.int .i64 0] [(0,(1,.t 16)),(1,(1,.c (.int .i64 1)))])),kc 18 (.bF (ι.t 297) 2 1 [.t 17]),kc 19 (.app false (ι.t 297) 2 24 #[.string ⟨#[]⟩,.int .i64 0] (.t 11) (.t 18)),kG 20 0 3,kf (.st (.t 20) (.t 19))] (kY [kV 21 (.mv (.v 4)),kC 22 (.int .i64 0)] (.blk 2 (.loop (kY [kH 23 22 21] (.seq (.ite (.v 23) .skip (.exit 2)) (.seq (.blk 3 (kY [kA 24 22,kB 5 24] (.reg [kG 25 2 3,kD 26 25,kA 27 5,kA 28 4,kU 29 (.m (.gz #[.int .i64 0,.int .i64 0] [(0,(1,.t 27)),(1,(1,.t 28))])),kc 30 (.bF (ι.t 194) 2 1 [.t 29]),kc 31 (.app false (ι.t 194) 2 16 #[.int .i64 0,.int .i64 0] (.t 26) (.t 30)),kG 32 2 3,kf (.st (.t 32) (.t 31))]))) (.reg [ke 33 22,kB 22 33])))))))))) (.reg [ke 34 7,kB 7 34]))))))) (kY [kM 35 5 3,kf (.stn 5 (.v 2) (.t 35))] .ret)))
def DO:List RV:=[.cn 2 5]
def Vu:Nat->List wx
 |0=>[]
 |k+1=>Vu k++[([115,UInt8.ofNat (48+k)],1)]
def PB (k i:Nat):List eH:=(List.range i).map fun(j:Nat)=>(((j:Nat):Int),((k:Nat):Int))
def GM:Nat->List eH
 |0=>[]
 |k+1=>GM k++PB k k
def mb (n:Nat):dz:=⟨Vu n,[],GM n,[],[]⟩
theorem Fe:∀n,(Vu n).length=n
 |0=>rfl
 |n+1=>by rw[Vu,List.length_append,Fe n];rfl
theorem Ff (k i:Nat):(PB k i).length=i:=by simp[PB]
theorem KN (k i:Nat):PB k (i+1)=PB k i++[((i:Int),(k:Int))]:=by simp[PB,List.range_succ]
theorem Fg:∀n,(GM n).length<=n*n
 |0=>by simp[GM]
 |n+1=>by
  rw[GM,List.length_append,Ff];have:=Fg n;have e:(n+1)*(n+1)=n*n+n+(n+1):=by rw[Nat.add_mul,Nat.mul_add];omega
  omega
variable {P:Program}
theorem pH {α:Type} {enc:α->List Value} {k:Nat} {T:TypeId} {bytes:Nat} {z:Array Value} {lv sv:Value} {H:Hp} {a d p off:Nat} {e:Env} {f:Fr} {Q:Fr->Hp->Prop} {b C:Nat} {cs:List Value} {L M:List α}
  (hk:∀x,(enc x).length=k) (h1c:∀x,∀v∈enc x,v.oneCell'=true) (hs:ct enc k H lv L) (hn:∀q,ay lv q->C<=q) (hx:bk enc k H sv M) (hz:z.size=k) (hb:bytes<=64) (h1:L.length+M.length<=1000000000)
  (hB:Bl H b cs) (hbC:b<C) (hoff:off<cs.length) (hf:f d=.pointer (some ⟨b,0,none⟩)) (hap:(p==a)=false)
  (hK:∀v' H',ct enc k H' v' (L++M)->(∀q,ay v' q->ay lv q\/H.size<=q)->Bl H' b (cs.set off v')->af (fun q=>q=b\/ay lv q) H H'->Q f H'):
  jy false T k bytes z lv sv H (tP P (.t a) [.p (.t p) (.fa off (.v d)),.e .no (.st (.t p) (.t a))] e f Q):=by
 refine Ey hk h1c hs hx hz (by unfold maxLen;omega) (Nat.le_trans (Nat.mul_le_mul h1 hb) (by omega)) fun v' H' O' K' o'=>?_;have Ce:¬a=p:=fun h=>by simp[h]at hap
 have B':=K'.bl hB (fun h=>by have:=hn b h;omega);have hsl:aq v':=by obtain⟨_,_,_,rfl⟩:=O'.shape;trivial
 have bU:=K'.size;have hlt:=hB.lt;have K2:af (fun q=>q=b\/ay lv q) H (ax H' ⟨b,off,none⟩ v'):=(K'.mono fun q _ h=>.inr h).ax _ (.inl (.inl rfl));rw[ae];simp only[yI,yJ,pW,ae,PX.pre,PX.val,Mo,lg,nO,jA,qQ,lp,gV,aS,hf,gU,iT,Nat.zero_add,if_true,Ce,if_false,EX.wp,br,Mq,and_true,true_and];exact⟨⟨B'.br hoff,aI hsl⟩,hK v' _ (O'.ag ((af.refl (fun q=>q=b) H').ax v' (.inl rfl)) fun q hq e=>by
  rcases o' q hq with h|h
  ·have:=hn q h;omega
  ·omega) o' (B'.ax off v') K2⟩
def nB (P:Program) (k:FuncId):Prop:=∀(n:Nat) (H:Hp),n<=5->ak P k #[.int .i64 (n:Int)] H fun r H'=>(∃s b d a m,r=.agg #[s,b,d,a,m])/\bW H' r (mb n)/\af (fun _=>False) H H'
theorem PC {ι:aC} {k:FuncId} (hk:an P k (DN ι) DO 1):nB P k:=by
 intro n H hn;refine qI fun Q hQ=>?_;refine ah hk (args:=[_]) (by simp) ?_;unfold DN DO kA kB kC kD ke kG kH kM kU kV kc kd kf kY kZ;simp-implicitDefEqProofs only[go_sem,zS,↓reduceIte,Za,Zb,Zc,reduceCtorEq,zU,zV,Zf,Zg,Zh,Zi,Zd,Ze,zF];refine al fun H1 b2 e1 z1 B1 K1=>?_;simp-implicitDefEqProofs only[go_sem,zS,↓reduceIte,Za,Zb,Zc,reduceCtorEq,zU,zV,Zf,Zg,Zh,Zi,Zd,Ze,zF];refine al fun H2 b3 e2 z2 B2 K2=>?_;have cf:Bl H1 b2 [.slice none 0 0,.slice none 0 0,.slice none 0 0,.slice none 0 0,.slice none 0 0]:=B1;have jc:Bl H2 b3 [.slice none 0 0,.slice none 0 0,.slice none 0 0,.slice none 0 0,.slice none 0 0]:=B2;have fY:=K2.bl cf (by simp);have s1:=K1.size;have s2:=K2.size;have adx:=jc.lt;have Tg:=cf.lt;have Zm:H1.size<=b3:=by omega
 have cG:=K1.trans K2;have hb:b3<H2.size:=jc.lt;simp-implicitDefEqProofs only[go_sem,zS,↓reduceIte,Za,Zb,Zc,reduceCtorEq,ae,zU,zV,Zf,Zg,Zh,Zi,Zd,Ze,zF];obtain⟨I,hI⟩:∃I:Nat->Hp->Prop,I=fun k X=>∃sv dv,ct cL 2 X sv (Vu k)/\vq X dv (GM k)/\(∀q,ay sv q->H2.size<=q)/\(∀q,ay dv q->H2.size<=q)/\(∀q,ay dv q->¬ay sv q)/\Bl X b3 [sv,.slice none 0 0,dv,.slice none 0 0,.slice none 0 0]/\af (fun q=>q=b3\/H2.size<=q) H2 X:=⟨_,rfl⟩
 refine aP [8,4,21,22,23,5,7] rfl (fun t f X=>∃k:Nat,k<=n/\t=n -k/\f 7=.int .i64 (k:Int)/\I k X) n ⟨0,by omega,by omega,by simp-implicitDefEqProofs only[go_sem,zS,↓reduceIte,Za,Zb,Zc,reduceCtorEq,ae,zU,zV,Zf,Zg,Zh,Zi,Zd,Ze],by
  rw[hI];exact⟨_,_,ct.nil _,ct.nil _,fun q h=>h.elim,fun q h=>h.elim,fun q h=>h.elim,jc,af.refl _ _⟩⟩ ?_
 rintro t g X ⟨k,rE,rfl,g7,hIk⟩;simp-implicitDefEqProofs only[go_sem,zS,↓reduceIte,Za,Zb,Zc,reduceCtorEq,ae,zU,zV,Zf,Zg,Zh,Zi,Zd,Ze]at g7;rw[hI]at hIk;obtain⟨sv,dv,O1,O2,o1,o2,o3,BX,KX⟩:=hIk;have sX:=KX.size;have c0:cell X ⟨b3,0,none⟩=some sv:=by rw[BX.cell];rfl
 simp-implicitDefEqProofs only[go_sem,zS,↓reduceIte,Za,Zb,Zc,reduceCtorEq,zU,zV,Zf,Zg,Zh,Zi,Zd,Ze,zF,g7];refine aH (fun hlt=>?_) (fun jt=>?_)
 ·have hlt:k<n:=by omega
  have hw:IntKind.u8.wrap (IntKind.i64.wrap (48+(k:Int)))=((UInt8.ofNat (48+k)).toNat:Int):=by
   have:k=0\/k=1\/k=2\/k=3\/k=4:=by omega
   rcases this with rfl|rfl|rfl|rfl|rfl<;>rfl
  simp-implicitDefEqProofs only[go_sem,zS,↓reduceIte,Za,Zb,Zc,reduceCtorEq,zU,zV,Zf,Zg,Zh,Zi,Zd,Ze,zF,c0,aj,hw];refine aG fun X1 b4 e4 z4 B4 K4=>?_;have mM:Bl X1 b4 (w8 [115,UInt8.ofNat (48+k)]):=B4;have v4:aM X1 (.slice (some ⟨b4,0,none⟩) 2 2) (w8 [115,UInt8.ofNat (48+k)]):=aM.bl mM 0 2 2 (by omega) (by simp[w8]);have h4:=v4.cz;simp-implicitDefEqProofs only[go_sem,zS,↓reduceIte,Za,Zb,Zc,reduceCtorEq,zU,zV,Zf,Zg,Zh,Zi,Zd,Ze,zF,h4,toBA_w8];refine⟨yP h4,?_⟩;refine aG fun X2 b5 e5 z5 B5 K5=>?_;have nK:Bl X2 b5 (cL ([115,UInt8.ofNat (48+k)],1)):=B5;have ZN:=K4.trans K5;have s4:=K4.size;have s5:=K5.size;simp-implicitDefEqProofs only[go_sem,zS,↓reduceIte,Za,Zb,Zc,reduceCtorEq,zU,zV,Zf,Zg,Zh,Zi,Zd,Ze,zF];refine pH (C:=H2.size) fg mU (O1.ag ZN (by simp)) o1 (bk.bl nK (l:=[([115,UInt8.ofNat (48+k)],1)]) rfl (by simp[cL]) (by simp)) rfl (by omega) (by rw[Fe];simp;omega) (ZN.bl BX (by simp)) hb (by simp) (by simp-implicitDefEqProofs only[go_sem,zS,↓reduceIte,Za,Zb,Zc,reduceCtorEq,ae,zU,zV,Zf,Zg,Zh,Zi,Zd,Ze]) rfl fun Ga X3 O3 o4 B3 K6=>?_;have B3:Bl X3 b3 [Ga,.slice none 0 0,dv,.slice none 0 0,.slice none 0 0]:=B3;have s6:=K6.size;have hsv:∀q,ay Ga q->H2.size<=q:=fun q hq=>by
   rcases o4 q hq with h|h
   ·exact o1 q h
   ·omega
  have O2X:vq X3 dv (GM k):=(O2.ag ZN (by simp)).ag K6 fun q hq h=>by
   rcases h with h|h
   ·have:=o2 q hq;omega
   ·exact o3 q hq h
  have hds:∀q,ay dv q->¬ay Ga q:=fun q hq h=>by
   rcases o4 q h with h|h
   ·exact o3 q hq h
   ·have:=O2.bE hq;omega
  have Gu:af (fun q=>q=b3\/H2.size<=q) H2 X3:=(KX.trans ZN.any).trans (K6.mono fun q _ h=>by
   rcases h with h|h
   ·exact .inl h
   ·exact .inr (o1 q h))
  simp-implicitDefEqProofs only[go_sem,zS,↓reduceIte,Za,Zb,Zc,reduceCtorEq,zU,zV,Zf,Zg,Zh,Zi,Zd,Ze,zF];refine aP [23,5,22] rfl (fun t f X=>∃i:Nat,i<=k/\t=k -i/\f 22=.int .i64 (i:Int)/\∃Um,vq X Um (GM k++PB k i)/\(∀q,ay Um q->H2.size<=q)/\(∀q,ay Um q->¬ay Ga q)/\Bl X b3 [Ga,.slice none 0 0,Um,.slice none 0 0,.slice none 0 0]/\ct cL 2 X Ga (Vu (k+1))/\af (fun q=>q=b3\/H2.size<=q) H2 X) k ⟨0,by omega,by omega,by simp-implicitDefEqProofs only[go_sem,zS,↓reduceIte,Za,Zb,Zc,reduceCtorEq,ae,zU,zV,Zf,Zg,Zh,Zi,Zd,Ze],dv,by rw[PB];simpa using O2X,o2,hds,B3,O3,Gu⟩ ?_;rintro t g X4 ⟨i,hi,rfl,g22,Um,M1,m1,m2,MB,M2,MK⟩;simp-implicitDefEqProofs only[go_sem,zS,↓reduceIte,Za,Zb,Zc,reduceCtorEq,ae,zU,zV,Zf,Zg,Zh,Zi,Zd,Ze]at g22;have c2:cell X4 ⟨b3,2,none⟩=some Um:=by rw[MB.cell];rfl
  have sM:=MK.size;simp-implicitDefEqProofs only[go_sem,zS,↓reduceIte,Za,Zb,Zc,reduceCtorEq,zU,zV,Zf,Zg,Zh,Zi,Zd,Ze,zF,g22];refine aH (fun Tg=>?_) (fun abu=>?_)
  ·have Tg:i<k:=by omega
   simp-implicitDefEqProofs only[go_sem,zS,↓reduceIte,Za,Zb,Zc,reduceCtorEq,zU,zV,Zf,Zg,Zh,Zi,Zd,Ze,zF,c2,aj];refine aG fun X5 b6 e6 z6 B6 K7=>?_;have Q0:Bl X5 b6 (pE (((i:Nat):Int),((k:Nat):Int))):=B6;have s7:=K7.size;simp-implicitDefEqProofs only[go_sem,zS,↓reduceIte,Za,Zb,Zc,reduceCtorEq,zU,zV,Zf,Zg,Zh,Zi,Zd,Ze,zF];have Q3:=Fg k;have hkk:k*k<=25:=Nat.mul_le_mul (show k<=5 by omega) (show k<=5 by omega);refine pH (C:=H2.size) iX jD (M1.ag K7 (by simp)) m1 (bk.bl Q0 (l:=[(((i:Nat):Int),((k:Nat):Int))]) rfl (by simp[pE]) (by simp)) rfl (by omega) (by rw[List.length_append,Ff];simp;omega) (K7.bl MB (by simp)) hb (by simp) (by simp-implicitDefEqProofs only[go_sem,zS,↓reduceIte,Za,Zb,Zc,reduceCtorEq,ae,zU,zV,Zf,Zg,Zh,Zi,Zd,Ze]) rfl fun dv2 X6 O6 o6 B8 K8=>?_;have B8:Bl X6 b3 [Ga,.slice none 0 0,dv2,.slice none 0 0,.slice none 0 0]:=B8;have K8':af (fun q=>q=b3\/H2.size<=q) X5 X6:=K8.mono fun q _ h=>by
    rcases h with h|h
    ·exact .inl h
    ·exact .inr (m1 q h)
   simp-implicitDefEqProofs only[go_sem,zS,↓reduceIte,Za,Zb,Zc,reduceCtorEq,ae,zU,zV,Zf,Zg,Zh,Zi,Zd,Ze,zF,g22];refine⟨k -(i+1),by omega,⟨i+1,by omega,by omega,?_,dv2,?_,fun q hq=>?_,fun q hq h=>?_,B8,(M2.ag K7 (by simp)).ag K8 fun q hq h=>?_,(MK.trans K7.any).trans K8'⟩⟩
   ·rw[IntWalk.i64_in _ (by omega)];rfl
   ·rw[KN,<-List.append_assoc];exact O6
   ·rcases o6 q hq with h|h
    ·exact m1 q h
    ·omega
   ·rcases o6 q hq with h1|h1
    ·exact m2 q h1 h
    ·have:=M2.bE h;omega
   ·rcases h with h|h
    ·have:=hsv q hq;omega
    ·exact m2 q h hq
  ·have QR:i=k:=by omega
   subst QR;simp-implicitDefEqProofs only[go_sem,zS,↓reduceIte,Za,Zb,Zc,reduceCtorEq,ae,zU,zV,Zf,Zg,Zh,Zi,Zd,Ze,zF,g7];refine⟨n -(i+1),by omega,⟨i+1,by omega,by omega,?_,?_⟩⟩
   ·rw[IntWalk.i64_in _ (by omega)];rfl
   ·rw[hI];exact⟨Ga,Um,M2,M1,hsv,m1,m2,MB,MK⟩
 ·have acv:k=n:=by omega
  subst acv;have WH:=KX.bl fY (by omega);have l3:aD X (.pointer (some ⟨b3,0,none⟩)) 5=some #[sv,.slice none 0 0,dv,.slice none 0 0,.slice none 0 0]:=BX.aD 5 rfl;have t2:=WH.bK (o:=0) (n:=5) (by simp);have K7:af (fun q=>q=b2) X (az X ⟨b2,0,none⟩ [sv,.slice none 0 0,dv,.slice none 0 0,.slice none 0 0]):=(af.refl _ _).az _ (.inl rfl);have B7:Bl (az X ⟨b2,0,none⟩ [sv,.slice none 0 0,dv,.slice none 0 0,.slice none 0 0]) b2 [sv,.slice none 0 0,dv,.slice none 0 0,.slice none 0 0]:=WH.az 0 [sv,.slice none 0 0,dv,.slice none 0 0,.slice none 0 0];have l7:aD (az X ⟨b2,0,none⟩ [sv,.slice none 0 0,dv,.slice none 0 0,.slice none 0 0]) (.pointer (some ⟨b2,0,none⟩)) 5=some #[sv,.slice none 0 0,dv,.slice none 0 0,.slice none 0 0]:=B7.aD 5 rfl;have ha:bI #[sv,.slice none 0 0,dv,.slice none 0 0,.slice none 0 0]:=bg (by simp only[List.all_cons,List.all_nil,aI O1.sl.aq,aI O2.sl.aq];rfl);simp-implicitDefEqProofs only[go_sem,zS,↓reduceIte,Za,Zb,Zc,reduceCtorEq,ae,zU,zV,Zf,Zg,Zh,Zi,Zd,Ze,zF,l3,t2,l7];refine⟨ha,?_⟩;rw[hQ];have n1:∀q,ay sv q->¬q=b2:=fun q hq e=>by have:=o1 q hq;omega
  have n2:∀q,ay dv q->¬q=b2:=fun q hq e=>by have:=o2 q hq;omega
  refine⟨⟨_,_,_,_,_,rfl⟩,⟨_,_,_,_,_,[],rfl,(O1.ag K7 n1).sl,bk.nil _ _ _,(O2.ag K7 n2).sl,bk.nil _ _ _,bk.nil _ _ _,⟨rfl,fun i h=>by simp at h⟩⟩,?_⟩;exact(cG.trans' KX fun q hq e=>by omega).trans' K7 fun q hq e=>by omega
end Go.Mg
namespace Go.Mg
open Go Go.RowKit
structure o9 (R:Nat->Hp->Value->Prop) (A0 X:Hp) (l:List (Nat×Value)):Prop where
 k:af (fun _=>False) A0 X
 v:∀p∈l,R p.1 X p.2
section
variable {P:Program} {R:Nat->Hp->Value->Prop} {A0 X:Hp} {l:List (Nat×Value)} {W:Nat->Prop} {e:Env} {f:Fr} {t m:T} {Q:Fr->Hp->Prop}
theorem o9.nil (A0:Hp):o9 R A0 A0 []:=⟨af.refl _ _,fun p h=>absurd h List.not_mem_nil⟩
theorem o9.snoc (hR:∀i X X' v,R i X v->af (fun _=>False) X X'->R i X' v) (h:o9 R A0 X l) {X':Hp} {i:Nat} {v:Value} (hk:af (fun _=>False) X X') (hv:R i X' v):o9 R A0 X' ((i,v)::l):=
 ⟨h.k.trans hk,fun p hp=>by
  rcases List.mem_cons.1 hp with rfl|hp
  ·exact hv
  ·exact hR _ _ _ _ (h.v p hp) hk⟩
theorem o9.call (hR:∀i X X' v,R i X v->af (fun _=>False) X X'->R i X' v) (h:o9 R A0 X l) {i:Nat} {j:FuncId} {xs:List A} {args:Array Value} (hc:∀X,af (fun _=>False) A0 X->ak P j args X fun r X'=>R i X' r/\af (fun _=>False) X X') (ha:(xs.map (A.rd e f)).toArray=args)
  (hK:∀v X',o9 R A0 X' ((i,v)::l)->cT P W t ((i,v)::e) f X' Q) (hm:cT P W m e f X Q):cT P W (.wcons (.t i) none (.call j xs) t m) e f X Q:=by
 rw[gG];refine⟨?_,hm⟩
 show ak P j (xs.map (A.rd e f)).toArray X _
 rw[ha];refine(hc X h.k).mono ?_;rintro r X' ⟨hr,K⟩;rw[aF];exact⟨K.any,hK r X' (h.snoc hR K hr)⟩
theorem o9.new (hR:∀i X X' v,R i X v->af (fun _=>False) X X'->R i X' v) (h:o9 R A0 X l) {i:Nat} {z:Array Value} {T:TypeId} (hi:∀X b,A0.size<=b->Bl X b z.toList->R i X (.pointer (some ⟨b,0,none⟩)))
  (hK:∀v X',o9 R A0 X' ((i,v)::l)->cT P W t e (bw f i v) X' Q) (hm:cT P W m e f X Q):cT P W (.wcons (.v i) none (.new T z) t m) e f X Q:=by
 rw[gG];refine⟨?_,hm⟩;have K:=(af.refl (fun _=>False) X).push (.cells z T);simp only[EX.wp];rw[aF];exact⟨K.any,hK _ _ (h.snoc hR K (hi _ _ h.k.size (Bl.cH X z T)))⟩
theorem o9.gz (hR:∀i X X' v,R i X v->af (fun _=>False) X X'->R i X' v) (h:o9 R A0 X l) {i n s:Nat} {xs:List A} {L:List Value} {T:TypeId} (ha:xs.flatMap (fun a=>(A.rd e f a).cells.toList)=L) (hs:∀a∈xs,(A.rd e f a).cells.size=s) (hi:∀X b,Bl X b L->R i X (.slice (some ⟨b,0,none⟩) n n))
  (hK:∀v X',o9 R A0 X' ((i,v)::l)->cT P W t ((i,v)::e) f X' Q) (hm:cT P W m e f X Q):cT P W (.wcons (.t i) none (.bF T s n xs) t m) e f X Q:=by
 rw[gG];refine⟨?_,hm⟩;simp only[EX.wp,ha];have K:=(af.refl (fun _=>False) X).push (.cells L.toArray T);rw[aF];exact⟨hs,K.any,hK _ _ (h.snoc hR K (hi _ _ (by simpa using Bl.cH X L.toArray T)))⟩
end
def ue:List Value:=[.slice none 0 0,.slice none 0 0,.slice none 0 0,.slice none 0 0,.slice none 0 0]
theorem PD {X:Hp} {b:Nat} (h:Bl X b ue):Ah X b:=⟨_,h,by
 intro x hx;simp only[ue,List.mem_cons,List.not_mem_nil,or_false,or_self]at hx;subst hx;trivial⟩
def PE (p:eT) (fx:List Int) (X:Hp) (r:Value) (X':Hp):Prop:=∃pv,r=.tuple #[pv,.int .i64 0]/\(∀Y W,af W X' Y->(∀q,W q->q<X.size/\Ah X q)->dE Y pv p fx)/\af (fun _=>False) X X'
def KO (p:eT) (fx:List Int) (A0:Hp) (s s':Nat) (f:Fr) (Q:Fr->Hp->Prop):Prop:=∀f' X' b w1 w2 w3 w4 w5,(∀j,j≠s->j≠s'->f' j=f j)->f' s=.pointer (some ⟨b,0,none⟩)->f' s'=.int .i64 0->A0.size<=b->Bl X' b [w1,w2,w3,w4,w5]->dE X' (.agg #[w1,w2,w3,w4,w5]) p fx->af (fun _=>False) A0 X'->Q f' X'
def ZO (a b c d s s':Nat):T:=.px (.t b) none (.mv (.t a)) (.px (.t c) none (.ext (.t b) 0) (.px (.t d) none (.ext (.t b) 1) (.wcons .no none (.stn 5 (.v s) (.t c)) (.px (.v s') none (.mv (.t d)) .done) .wnil)))
def ZP (ι:aC) (a b c d s s':Nat):T:=.px (.t b) none (.mv (.t a)) (.px (.t c) none (.ext (.t b) 0) (.px (.t d) none (.ext (.t b) 1) (.wcons (.v s) none (.new (ι.t 358) #[.slice none 0 0,.slice none 0 0,.slice none 0 0,.slice none 0 0,.slice none 0 0]) (.wcons .no none (.stn 5 (.v s) (.t c)) (.px (.v s') none (.mv (.t d)) .done) .wnil) .wnil)))
section
variable {P:Program} {ι:aC} {p:eT} {fx:List Int} {A0 X:Hp} {e:Env} {f g:Fr} {m:T} {Q:Fr->Hp->Prop} {a b c d s s':Nat} {j:FuncId} {xs:List A} {args:Array Value}
theorem Fh {pv:Value} {X Y X2:Hp} {b0:Nat} (hK:KO p fx A0 s s' f Q) (hA:A0.size<=b0) (hg:∀j,j≠s->j≠s'->g j=f j) (gs:g s=.pointer (some ⟨b0,0,none⟩)) (g':g s'=.int .i64 0) (KA:af (fun _=>False) A0 X) (hB:Bl X b0 ue) (hP:∀Y W,af W X Y->(∀q,W q->q=b0)->dE Y pv p fx):
  (UP X (.pointer (some ⟨b0,0,none⟩)) 5/\pv.cells.size=5/\bI pv.cells)/\af (fun q=>A0.size<=q) X (yl X (.pointer (some ⟨b0,0,none⟩)) pv.cells.toList)/\Q g (yl X (.pointer (some ⟨b0,0,none⟩)) pv.cells.toList):=by
 obtain⟨w1,w2,w3,w4,w5,vs,ms,rfl,hp⟩:=hP X (fun _=>False) (af.refl _ _) fun q h=>h.elim;have KK:∀l,af (fun q=>q=b0) X (az X ⟨b0,0,none⟩ l):=fun l=>(af.refl _ _).az l (.inl rfl);have ha:bI #[w1,w2,w3,w4,w5]:=bg (by simp only[List.all_cons,List.all_nil,aI hp.e.aq,aI hp.d.aq,aI hp.s.aq,aI hp.m.aq,aI hp.f.aq];rfl);refine⟨⟨hB.bK (o:=0) (n:=5) (by simp[ue]),rfl,ha⟩,(KK _).mono fun q _ e=>by omega,?_⟩;exact hK g _ b0 w1 w2 w3 w4 w5 hg gs g' hA (hB.az 0 [w1,w2,w3,w4,w5]) (hP _ _ (KK _) fun q h=>h) (KA.trans' (KK _) fun q hq e=>by omega)
theorem KR (hc:ak P j args X (PE p fx X)) (ha:(xs.map (A.rd e g)).toArray=args) (hK:KO p fx A0 s s' f Q) {b0:Nat} (hA:A0.size<=b0) (KA:af (fun _=>False) A0 X) (hB:Bl X b0 ue) (hg:∀j,j≠s->j≠s'->g j=f j) (gs:g s=.pointer (some ⟨b0,0,none⟩)) (hss:s≠s') (h1:¬b=c) (h2:¬c=d) (hm:cT P (fun q=>A0.size<=q) m e g X Q):
  cT P (fun q=>A0.size<=q) (.wcons (.t a) none (.call j xs) (ZO a b c d s s') m) e g X Q:=by
 rw[gG];refine⟨?_,hm⟩
 show ak P j (xs.map (A.rd e g)).toArray X _
 rw[ha];refine hc.mono ?_;rintro r X' ⟨pv,rfl,hP,K⟩;have lt:=hB.lt;have:=Fh (g:=bw g s' (.int .i64 0)) (pv:=pv) (Y:=X') (X2:=X') hK hA (fun i h3 h4=>by simp only[bw,h4,if_false];exact hg i h3 h4) (by simp only[bw,hss,if_false];exact gs) (by simp only[bw,if_true]) (KA.trans K) (K.bl hB (by simp)) (fun Y W KW hW=>hP Y W KW fun q hq=>by
  rw[hW q hq];exact⟨lt,PD hB⟩)
 unfold ZO;rw[aF];refine⟨K.any,?_⟩;simp-implicitDefEqProofs only[go_sem,zS,↓reduceIte,Za,Zb,Zc,reduceCtorEq,zU,zV,Zf,Zg,Zh,Zi,Zd,Ze,zF,gs,h1,h2];exact this
theorem KU (hc:ak P j args X (PE p fx X)) (ha:(xs.map (A.rd e g)).toArray=args) (hK:KO p fx A0 s s' f Q) (KA:af (fun _=>False) A0 X) (hg:∀j,j≠s->j≠s'->g j=f j) (hss:s≠s') (h1:¬b=c) (h2:¬c=d) (hm:cT P (fun q=>A0.size<=q) m e g X Q):
  cT P (fun q=>A0.size<=q) (.wcons (.t a) none (.call j xs) (ZP ι a b c d s s') m) e g X Q:=by
 rw[gG];refine⟨?_,hm⟩
 show ak P j (xs.map (A.rd e g)).toArray X _
 rw[ha];refine hc.mono ?_;rintro r X' ⟨pv,rfl,hP,K⟩;have K2:=(af.refl (fun _=>False) X').push (.cells #[.slice none 0 0,.slice none 0 0,.slice none 0 0,.slice none 0 0,.slice none 0 0] (ι.t 358));have B2:Bl (X'.push (.cells #[.slice none 0 0,.slice none 0 0,.slice none 0 0,.slice none 0 0,.slice none 0 0] (ι.t 358))) X'.size ue:=Bl.cH X' #[.slice none 0 0,.slice none 0 0,.slice none 0 0,.slice none 0 0,.slice none 0 0] (ι.t 358);have hA:=(KA.trans K).size;have hs:¬s=s':=hss;unfold ZP;rw[aF];refine⟨K.any,?_⟩;simp-implicitDefEqProofs only[go_sem,zS,↓reduceIte,Za,Zb,Zc,reduceCtorEq,zU,zV,Zf,Zg,Zh,Zi,Zd,Ze,zF,h1,h2,hs];generalize X'.push (.cells #[.slice none 0 0,.slice none 0 0,.slice none 0 0,.slice none 0 0,.slice none 0 0] (ι.t 358))=X2 at*;have:=Fh (g:=bw (bw g s (.pointer (some ⟨X'.size,0,none⟩))) s' (.int .i64 0)) (pv:=pv) (Y:=X') (X2:=X') hK hA (fun i h3 h4=>by simp only[bw,h3,h4,if_false];exact hg i h3 h4) (by simp only[bw,hss,if_false,if_true]) (by simp only[bw,if_true]) ((KA.trans K).trans K2) B2 (fun Y W KW hW=>hP Y (fun _=>False) (K2.trans' KW fun q hq e=>by have:=hW q e;omega) fun q h=>h.elim);exact⟨K2.any,this⟩
end
end Go.Mg
namespace Go.Mg
open Go Go.RowKit
def KV (ι:aC):S:=
 (.dr (kW 16 (.m (.ldn 1 (.v 1))) (kW 17 (.m (.ldn 1 (.v 1))) (kW 18 (.m (.ldn 1 (.v 1))) (ka 15 (kg (ι.f 443) [.c (.int .i64 3)]) (ka 19 (.bF (ι.t 128) 1 3 [.t 16,.t 17,.t 18]) (ka 20 (kg (ι.f 376) [.t 15,.t 19,.c (kZ)]) (kW 14 (.mv (.t 20)) (kW 21 (.ext (.t 14) 0) (kW 22 (.ext (.t 14) 1) (.wcons (.v 2) .none (.new (ι.t 358) #[kZ,kZ,kZ,kZ,kZ]) (kb (.stn 5 (.v 2) (.t 21)) (kX 3 (.mv (.t 22)) .done) .wnil) .wnil)))) (.wcons (.v 2) .none (.new (ι.t 358) #[kZ,kZ,kZ,kZ,kZ]) (ka 20 (kg (ι.f 376) [.t 15,.t 19,.c (kZ)]) (kW 14 (.mv (.t 20)) (kW 21 (.ext (.t 14) 0) (kW 22 (.ext (.t 14) 1) (kb (.stn 5 (.v 2) (.t 21)) (kX 3 (.mv (.t 22)) .done) .wnil)))) .wnil) .wnil)) (.wcons (.v 2) .none (.new (ι.t 358) #[kZ,kZ,kZ,kZ,kZ]) (ka 19 (.bF (ι.t 128) 1 3 [.t 16,.t 17,.t 18]) (ka 20 (kg (ι.f 376) [.t 15,.t 19,.c (kZ)]) (kW 14 (.mv (.t 20)) (kW 21 (.ext (.t 14) 0) (kW 22 (.ext (.t 14) 1) (kb (.stn 5 (.v 2) (.t 21)) (kX 3 (.mv (.t 22)) .done) .wnil)))) .wnil) .wnil) .wnil)) (ka 19 (.bF (ι.t 128) 1 3 [.t 16,.t 17,.t 18]) (ka 15 (kg (ι.f 443) [.c (.int .i64 3)]) (ka 20 (kg (ι.f 376) [.t 15,.t 19,.c (kZ)]) (kW 14 (.mv (.t 20)) (kW 21 (.ext (.t 14) 0) (kW 22 (.ext (.t 14) 1) (.wcons (.v 2) .none (.new (ι.t 358) #[kZ,kZ,kZ,kZ,kZ]) (kb (.stn 5 (.v 2) (.t 21)) (kX 3 (.mv (.t 22)) .done) .wnil) .wnil)))) (.wcons (.v 2) .none (.new (ι.t 358) #[kZ,kZ,kZ,kZ,kZ]) (ka 20 (kg (ι.f 376) [.t 15,.t 19,.c (kZ)]) (kW 14 (.mv (.t 20)) (kW 21 (.ext (.t 14) 0) (kW 22 (.ext (.t 14) 1) (kb (.stn 5 (.v 2) (.t 21)) (kX 3 (.mv (.t 22)) .done) .wnil)))) .wnil) .wnil)) (.wcons (.v 2) .none (.new (ι.t 358) #[kZ,kZ,kZ,kZ,kZ]) (ka 15 (kg (ι.f 443) [.c (.int .i64 3)]) (ka 20 (kg (ι.f 376) [.t 15,.t 19,.c (kZ)]) (kW 14 (.mv (.t 20)) (kW 21 (.ext (.t 14) 0) (kW 22 (.ext (.t 14) 1) (kb (.stn 5 (.v 2) (.t 21)) (kX 3 (.mv (.t 22)) .done) .wnil)))) .wnil) .wnil) .wnil)) (.wcons (.v 2) .none (.new (ι.t 358) #[kZ,kZ,kZ,kZ,kZ]) (ka 15 (kg (ι.f 443) [.c (.int .i64 3)]) (ka 19 (.bF (ι.t 128) 1 3 [.t 16,.t 17,.t 18]) (ka 20 (kg (ι.f 376) [.t 15,.t 19,.c (kZ)]) (kW 14 (.mv (.t 20)) (kW 21 (.ext (.t 14) 0) (kW 22 (.ext (.t 14) 1) (kb (.stn 5 (.v 2) (.t 21)) (kX 3 (.mv (.t 22)) .done) .wnil)))) .wnil) .wnil) (ka 19 (.bF (ι.t 128) 1 3 [.t 16,.t 17,.t 18]) (ka 15 (kg (ι.f 443) [.c (.int .i64 3)]) (ka 20 (kg (ι.f 376) [.t 15,.t 19,.c (kZ)]) (kW 14 (.mv (.t 20)) (kW 21 (.ext (.t 14) 0) (kW 22 (.ext (.t 14) 1) (kb (.stn 5 (.v 2) (.t 21)) (kX 3 (.mv (.t 22)) .done) .wnil)))) .wnil) .wnil) .wnil)) .wnil)))))))
def Rx (ι:aC):S:=
 (.dr (kW 38 (.m (.ldn 1 (.v 1))) (kW 39 (.m (.ldn 1 (.v 1))) (ka 37 (kg (ι.f 443) [.c (.int .i64 2)]) (ka 40 (.bF (ι.t 128) 1 2 [.t 38,.t 39]) (ka 41 (kg (ι.f 391) [.t 37,.t 40]) (kW 36 (.mv (.t 41)) (kW 42 (.ext (.t 36) 0) (kW 43 (.ext (.t 36) 1) (kX 10 (.mv (.t 42)) (kX 11 (.mv (.t 43)) .done))))) .wnil) .wnil) (ka 40 (.bF (ι.t 128) 1 2 [.t 38,.t 39]) (ka 37 (kg (ι.f 443) [.c (.int .i64 2)]) (ka 41 (kg (ι.f 391) [.t 37,.t 40]) (kW 36 (.mv (.t 41)) (kW 42 (.ext (.t 36) 0) (kW 43 (.ext (.t 36) 1) (kX 10 (.mv (.t 42)) (kX 11 (.mv (.t 43)) .done))))) .wnil) .wnil) .wnil)))))
def La (ι:aC):S:=
 (kY [kA 44 3,kU 45 (.cm .eql .i64 (.t 44) (.c (.int .i64 0))),kF 46 45,kS 47 46 true 7,kT 48 46 true (.cm .eql .i64 (.t 47) (.c (.int .i64 0))),kJ 49 46 48,kF 50 49,kS 51 50 true 6,kT 52 50 true (.not (.t 51)),kJ 53 50 52,kF 54 53,kS 55 54 true 8,kT 56 54 true (.cm .eql .u8 (.t 55) (.c (.int .u8 1))),kJ 57 54 56,kF 58 57,kT 59 58 true (.fa 0 (.v 5)),kT 60 58 true (.ld (.t 59)),kT 61 58 true (.m (.lenl (.t 60))),kT 62 58 true (.cm .gtr .i64 (.t 61) (.c (.int .i64 0))),kJ 63 58 62,kF 64 63,kS 65 64 true 11,kT 66 64 true (.cm .eql .i64 (.t 65) (.c (.int .i64 0))),kJ 67 64 66,kF 68 67,kS 69 68 true 10,.ge (.t 70) (.t 68) true (kg (ι.f 382) [.t 69]),.ge (.t 71) (.t 68) true (.bF (ι.t 26) 1 2 [.c (.int .i64 1),.c (.int .i64 2)]),.ge (.t 72) (.t 68) true (kg (ι.f 165) [.t 70,.t 71]),kJ 73 68 72,kB 0 73] .ret)
def DP (ι:aC):S:=
 kY [kC 0 (.bool false)] (kY [kc 12 (.bF (ι.t 26) 1 2 [.c (.int .i64 1),.c (.int .i64 2)]),kc 13 (kg (ι.f 143) [.t 12]),kd 1 (.new (ι.t 128) #[kZ]),kf (.stn 1 (.v 1) (.t 13))] (.seq (KV ι) (kY [kM 24 5 2,kc 25 (kg (ι.f 373) [.t 24,.c (.int .i64 0)]),kF 23 25,kQ 26 23 0,kQ 27 23 1,kQ 28 23 2,kQ 29 23 3,kd 5 (.new (ι.t 372) #[kZ]),kF 4 26,kf (.stn 1 (.v 5) (.t 27)),kB 6 28,kB 7 29] (kY [kM 31 5 2,kM 32 1 5,kc 33 (kg (ι.f 437) [.t 31,.t 32]),kF 30 33,kQ 34 30 0,kQ 35 30 1,kB 8 34,kF 9 35] (.seq (Rx ι) (La ι))))))
def DQ:List RV:=[.t 0]
theorem Un:Mw [1,2]=bt 6:=by
 funext n
 by_cases h:n<11
 ·have:∀n:Fin 11,Mw [1,2] n.val=bt 6 n.val:=by decide
  exact this ⟨n,h⟩
 ·have e1:bt 6 n=false:=Nat.testBit_lt_two_pow (Nat.lt_of_lt_of_le (show(6:UInt64).toNat<2^11 by decide) (Nat.pow_le_pow_right (by omega) (by omega)));rw[e1];unfold Mw;have:¬((n:Int)∈([1,2]:List Int)):=fun hm=>by
   simp only[List.mem_cons,List.not_mem_nil,or_false]at hm;omega
  rw[decide_eq_false this,Bool.false_and]
theorem DR (n:Nat):GG (List.replicate n 6):=fun k u h=>by
 have h6:bt 6 u=true:=by
  rw[List.getD_eq_getElem?_getD,List.getElem?_replicate]at h
  by_cases hk:k<n
  ·rw[if_pos hk]at h;exact h
  ·rw[if_neg hk]at h;simp[bt]at h
 have hb:=Nat.ge_two_pow_of_testBit h6;have h4:u<3:=by
  apply Classical.byContradiction;intro hc;have:2^3<=2^u:=Nat.pow_le_pow_right (by omega) (by omega);have:(6:UInt64).toNat=6:=rfl;omega
 have h0:u≠0:=by rintro rfl;revert h6;decide
 omega
theorem Lb:∀(n:Nat) (x:eH),x∈GM n->0<=x.1/\x.1<x.2/\x.2<(n:Int)
 |0,x,h=>by simp[GM]at h
 |n+1,x,h=>by
  rw[GM,List.mem_append]at h;rcases h with h|h
  ·have:=Lb n x h;omega
  ·simp only[PB,List.mem_map,List.mem_range]at h;obtain⟨j,hj,rfl⟩:=h;omega
variable {n:Nat} {x:Value}
theorem Uo (hn:n<=5):(GM n).length<=10:=by
 have:n=0\/n=1\/n=2\/n=3\/n=4\/n=5:=by omega
 rcases this with rfl|rfl|rfl|rfl|rfl|rfl<;>decide
theorem ZQ {el:List (Nat->Bool)} (hn0:0<el.length) (hn:el.length<=5) (hu:∀k u,(el.getD k fun _=>false) u=true->1<=u/\u<=256):bP (aZ (mb el.length) el):=by
 have:=Uo hn;refine⟨hn0,show el.length<=10 by omega,hu,show(GM el.length).length<=20 by omega,show 0<=20 by omega,show 0<=20 by omega,fun x hx=>?_,fun x hx=>absurd hx List.not_mem_nil,fun x hx=>absurd hx List.not_mem_nil⟩;have h:=Lb _ x hx;have e:(aZ (mb el.length) el).el.length=el.length:=rfl;unfold l8;omega
theorem dfB {el:List (Nat->Bool)} (hn0:0<el.length) (hn:el.length<=5) (hu:∀k u,(el.getD k fun _=>false) u=true->1<=u/\u<=256) {fx:List Int} (hf:lj el.length fx):jV (aZ (mb el.length) el) fx:=
 tg (ZQ hn0 hn hu) hf hn
theorem Up (n:Nat):lj n (List.replicate n 0):=⟨by simp,fun u hu=>by
 have:=List.eq_of_mem_replicate hu;omega⟩
def nC (n:Nat):List (Nat->Bool):=(List.replicate n (6:UInt64)).map bt
theorem DS (n k u:Nat) (h:((nC n).getD k fun _=>false) u=true):1<=u/\u<=4:=by
 unfold nC at h;rw[bN]at h;exact DR n k u h
theorem Ry:cM (aZ (mb 3) (nC 3)) [0,0,0]=none:=by
 unfold nC;rw[k8 rfl (DR 3)];decide+kernel
theorem Rz:cM (aZ (mb 2) (nC 2)) [0,0]=some [1,2]:=by
 unfold nC;rw[k8 rfl (DR 2)];decide+kernel
theorem XM:ef (mb 2) 63 (fun _=>false)=0:=by
 have h1:zy 63 (fun _=>false) (mb 2).st 2=0:=by decide+kernel
 have h2:Gg (lP [])=0:=Cg (pz (by simp));unfold ef;rw[if_neg (by decide),if_neg (by unfold mQ;decide)]
 show ju (zy 63 (fun _=>false) (mb 2).st 2) (ju (jq 2 (mb 2).be) (ju (jq 2 (mb 2).di) (ju (jq 2 (mb 2).sa) (ju (rM 2 (mb 2).mo) (Gg (lP []))))))=0
 rw[h1,h2];decide
theorem Fi {H:Hp} {vs:List Value} (hx:aQ H (.agg #[x]) (bt 6)) (hv:vs=List.replicate n x) (i:Nat) (hi:i<vs.length):aQ H (.agg #[vs.getD i undef]) ((nC n).getD i fun _=>false):=by
 subst hv;rw[List.length_replicate]at hi;unfold nC;rw[List.getD_eq_getElem?_getD,List.getElem?_replicate,if_pos hi,bN,List.getD_eq_getElem?_getD,List.getElem?_replicate,if_pos hi];exact hx
def DT (A:Hp) (x:Value) (i:Nat) (X:Hp) (v:Value):Prop:=match i with
 |15=>bW X v (mb 3)
 |19=>aM X v [x,x,x]
 |2=>∃b,v=.pointer (some ⟨b,0,none⟩)/\A.size<=b/\Bl X b ue
 |_=>False
theorem DT.ag {A:Hp}:∀i X X' v,DT A x i X v->af (fun _=>False) X X'->DT A x i X' v:=fun i X X' v h hk=>by
 unfold DT at*
 split at h
 ·exact bW.ai h hk
 ·exact aM.ag h hk (by simp)
 ·obtain⟨b,e,hb,B⟩:=h;exact⟨b,e,hb,hk.bl B (by simp)⟩
 ·exact h
set_option maxHeartbeats 4000000 in
theorem Uq {P:Program} {ι:aC} (hd:nB P (ι.f 443)) (hp:c9 P ι (ι.f 376)) {f:Fr} {A0:Hp} {b1:Nat} {Qb:Ex->Fr->Hp->Prop} (h1:f 1=.pointer (some ⟨b1,0,none⟩)) (hsl:aq x) (B1:Bl A0 b1 [x]) (hx:aQ A0 (.agg #[x]) (bt 6))
  (hK:KO (aZ (mb 3) (nC 3)) [0,0,0] A0 2 3 f (Qb .n)):vc P (KV ι) Qb f A0:=by
 unfold KV kW kX ka kb kg kZ;have lt:=B1.lt;have hlt:(A0.size<=b1)=False:=eq_false (by omega);have l1:aD A0 (.pointer (some ⟨b1,0,none⟩)) 1=some #[x]:=B1.aD 1 rfl;refine bj (fun q=>A0.size<=q) ?_;have s0:o9 (DT A0 x) A0 A0 []:=o9.nil A0;rw[cj,cj,cj];refine⟨by simp-implicitDefEqProofs only[go_sem,zS,↓reduceIte,Za,Zb,Zc,reduceCtorEq,zU,zV,Zf,Zg,Zh,Zi,Zd,Ze,zF,h1,hlt,l1],by simp-implicitDefEqProofs only[go_sem,zS,↓reduceIte,Za,Zb,Zc,reduceCtorEq,zU,zV,Zf,Zg,Zh,Zi,Zd,Ze,zF,h1,hlt,l1],by simp-implicitDefEqProofs only[go_sem,zS,↓reduceIte,Za,Zb,Zc,reduceCtorEq,zU,zV,Zf,Zg,Zh,Zi,Zd,Ze,zF,h1,hlt,l1],?_⟩;have hv:∀e,(PM.ldn 1 (.v 1)).val (A.rd e f) A0=.agg #[x]:=fun e=>by simp-implicitDefEqProofs only[go_sem,zS,↓reduceIte,Za,Zb,Zc,reduceCtorEq,zU,zV,Zf,Zg,Zh,Zi,Zd,Ze,zF,h1,l1]
 simp only[PX.val,hv,jA,qQ];have C1:∀X,af (fun _=>False) A0 X->ak P (ι.f 443) #[.int .i64 3] X fun r X'=>DT A0 x 15 X' r/\af (fun _=>False) X X':=fun X K=>(hd 3 X (by omega)).mono fun r X' ⟨_,h,K'⟩=>⟨h,K'⟩
 have C2:∀X Fj Fk,af (fun _=>False) A0 X->DT A0 x 15 X Fj->DT A0 x 19 X Fk->ak P (ι.f 376) #[Fj,Fk,.slice none 0 0] X (PE (aZ (mb 3) (nC 3)) [0,0,0] X):=fun X Fj Fk K h15 h19=>by
  have h15:bW X Fj (mb 3):=h15;have h19:aM X Fk [x,x,x]:=h19;refine(hp (mb 3) (nC 3) [x,x,x] [] _ _ _ X X (af.refl _ _) h15 h19 rfl rfl (Fi (n:=3) (hx.ai K) rfl) (aM.nil _ _ _) (.inl rfl) (ZQ (el:=nC 3) (by decide) (by decide) fun k u h=>by have:=DS 3 k u h;omega) (Up 3)).mono ?_;rintro r X' ⟨pv,rfl,h1,h2⟩;refine⟨pv,rfl,fun Y W KW hW=>h1 Y W KW fun q hq=>⟨(hW q hq).1,.inr (hW q hq).2⟩,h2⟩
 have N:∀X b,A0.size<=b->Bl X b (#[.slice none 0 0,.slice none 0 0,.slice none 0 0,.slice none 0 0,.slice none 0 0]:Array Value).toList->DT A0 x 2 X (.pointer (some ⟨b,0,none⟩)):=fun X b h B=>⟨b,rfl,h,B⟩
 have D3:∀X b,Bl X b [x,x,x]->DT A0 x 19 X (.slice (some ⟨b,0,none⟩) 3 3):=fun X b B=>by
  have:aM X (.slice (some ⟨b,0,none⟩) 3 3) [x,x,x]:=aM.bl B 0 3 3 (by omega) (by simp);exact this
 have Ld:∀X l e v2 Fj Fk m,o9 (DT A0 x) A0 X l->(2,v2)∈l->(15,Fj)∈l->(19,Fk)∈l->look e 15=Fj->look e 19=Fk->cT P (fun q=>A0.size<=q) m e (bw f 2 v2) X (Qb .n)->cT P (fun q=>A0.size<=q) (.wcons (.t 20) none (.call (ι.f 376) [.t 15,.t 19,.c (.slice none 0 0)]) (ZO 20 14 21 22 2 3) m) e (bw f 2 v2) X (Qb .n):=fun X l e v2 Fj Fk m S m2 m15 m19 ZB e19 hm=>by
  obtain⟨b,rfl,hb,B⟩:∃b,v2=.pointer (some ⟨b,0,none⟩)/\A0.size<=b/\Bl X b ue:=S.v _ m2;exact KR (C2 X Fj Fk S.k (S.v _ m15) (S.v _ m19)) (by simp only[List.map_cons,List.map_nil,nO,rd_c,ZB,e19]) hK hb S.k B (fun j h2 _=>by simp only[bw,h2,if_false]) (by simp only[bw,if_true]) (by decide) (by decide) (by decide) hm
 have Le:∀X l e Fj Fk m,o9 (DT A0 x) A0 X l->(15,Fj)∈l->(19,Fk)∈l->look e 15=Fj->look e 19=Fk->cT P (fun q=>A0.size<=q) m e f X (Qb .n)->cT P (fun q=>A0.size<=q) (.wcons (.t 20) none (.call (ι.f 376) [.t 15,.t 19,.c (.slice none 0 0)]) (ZP ι 20 14 21 22 2 3) m) e f X (Qb .n):=fun X l e Fj Fk m S m15 m19 ZB e19 hm=>
  KU (C2 X Fj Fk S.k (S.v _ m15) (S.v _ m19)) (by simp only[List.map_cons,List.map_nil,nO,rd_c,ZB,e19]) hK S.k (fun j _ _=>rfl) (by decide) (by decide) (by decide) hm
 repeat' (first
  |exact trivial
  |refine Ld _ _ _ _ _ _ _ (by assumption) (by simp) (by simp[aS]) (by simp[aS]) rfl rfl ?_
  |refine Le _ _ _ _ _ _ (by assumption) (by simp[aS]) (by simp[aS]) rfl rfl ?_
  |refine o9.call DT.ag (by assumption) C1 rfl (fun _ _ _=>?_) ?_
  |refine o9.gz DT.ag (by assumption) (L:=[x,x,x]) (by simp[nO,aS,Value.cells]) (by simp[nO,aS,Value.cells]) D3 (fun _ _ _=>?_) ?_
  |refine o9.new DT.ag (by assumption) N (fun _ _ _=>?_) ?_)
end Go.Mg
namespace Go.Mg
open Go Go.RowKit
structure acw (P:Program) (ι:aC):Prop where
 dif:nB P (ι.f 443)
 of_:qh P (ι.f 143)
 prb:c9 P ι (ι.f 376)
 slv:gu P ι (ι.f 373)
 chk:o0 P ι (ι.f 437)
 sta:gw P ι (ι.f 391)
 pln:sU P ι (ι.f 382)
 eqI:qi P (ι.f 165)
def tA (P:Program) (ι:aC) (k:FuncId):Prop:=∀(H:Hp),aU ι H->ak P k #[] H fun r H'=>r=.bool true/\af (fun _=>False) H H'
theorem PG {P:Program} {ι:aC} {k:FuncId} (hk:an P k (DP ι) DQ 0) (c:acw P ι):tA P ι k:=by
 intro H hT;refine qI fun Q hQ=>?_;refine ah hk (args:=[]) (by simp) ?_;unfold DP DQ kB kF kC kM kQ kc kd kf kg kY kZ;simp-implicitDefEqProofs only[go_sem,zS,↓reduceIte,Za,Zb,Zc,reduceCtorEq,zU,zV,Zf,Zg,Zh,Zi,Zd,Ze,zF];refine aG fun H1 p1 e1 z1 B1 K1=>?_;have cf:Bl H1 p1 (iL [1,2]):=B1;simp-implicitDefEqProofs only[go_sem,zS,↓reduceIte,Za,Zb,Zc,reduceCtorEq,zU,zV,Zf,Zg,Zh,Zi,Zd,Ze,zF];refine(c.of_ [1,2] _ H1 (aM.bl cf 0 2 2 (by omega) (by simp[aA])) (by simp)).mono ?_;rintro r H2 ⟨hx,K2,-⟩;rw[Un]at hx;obtain⟨x,Wx,rfl,hV⟩:=hx;have hx:aQ H2 (.agg #[x]) (bt 6):=⟨x,Wx,rfl,hV⟩
 have hsl:aq x:=hV.sl.aq;rw[ae];simp-implicitDefEqProofs only[go_sem,zS,↓reduceIte,Za,Zb,Zc,reduceCtorEq,zU,zV,Zf,Zg,Zh,Zi,Zd,Ze,zF];refine bf [x] (by simp-implicitDefEqProofs only[go_sem,zS,↓reduceIte,Za,Zb,Zc,reduceCtorEq,ae,zU,zV,Zf,Zg,Zh,Zi,Zd,Ze]) rfl rfl (by simp only[List.all_cons,List.all_nil,aI hsl];rfl) fun A1 b1 e3 z3 B3 K3=>?_;have WR:=(K1.trans K2).trans K3;simp-implicitDefEqProofs only[go_sem,zS,↓reduceIte,Za,Zb,Zc,reduceCtorEq,zU,zV,Zf,Zg,Zh,Zi,Zd,Ze,zF];have jv:Bl A1 b1 [x]:=B3;refine Uq c.dif c.prb (b1:=b1) (x:=x) (by simp-implicitDefEqProofs only[go_sem,zS,↓reduceIte,Za,Zb,Zc,reduceCtorEq,ae,zU,zV,Zf,Zg,Zh,Zi,Zd,Ze]) hsl jv (hx.ai K3) ?_;intro f A2 b2 w1 w2 w3 w4 w5 hf f2 f3 hb2 B4 PX K4;have f1:f 1=.pointer (some ⟨b1,0,none⟩):=by rw[hf 1 (by decide) (by decide)];simp-implicitDefEqProofs only[go_sem,zS,↓reduceIte,Za,Zb,Zc,reduceCtorEq,ae,zU,zV,Zf,Zg,Zh,Zi,Zd,Ze]
 have s4:=K4.size;have FP:=K4.bl jv (by simp);have l2:aD A2 (.pointer (some ⟨b2,0,none⟩)) 5=some #[w1,w2,w3,w4,w5]:=B4.aD 5 rfl;have us3:∀k u,((nC 3).getD k fun _=>false) u=true->1<=u/\u<=256:=fun k u h=>by have:=DS 3 k u h;omega
 have us2:∀k u,((nC 2).getD k fun _=>false) u=true->1<=u/\u<=256:=fun k u h=>by have:=DS 2 k u h;omega
 have G3:bP (aZ (mb 3) (nC 3)):=ZQ (el:=nC 3) (by decide) (by decide) us3;have S3:jV (aZ (mb 3) (nC 3)) [0,0,0]:=dfB (el:=nC 3) (by decide) (by decide) us3 (Up 3);have G2:bP (aZ (mb 2) (nC 2)):=ZQ (el:=nC 2) (by decide) (by decide) us2;have S2:jV (aZ (mb 2) (nC 2)) [0,0]:=dfB (el:=nC 2) (by decide) (by decide) us2 (Up 2);obtain⟨w,hw,hw1,NC⟩:=S3.w;have sD:((0:Int)==0)=true:=rfl;have e11:((1:Int)==1)=true:=rfl;simp-implicitDefEqProofs only[go_sem,zS,↓reduceIte,Za,Zb,Zc,reduceCtorEq,zU,zV,Zf,Zg,Zh,Zi,Zd,Ze,zF,f2,l2];refine(c.slv (aZ (mb 3) (nC 3)) [0,0,0] w _ A2 (hT.ag (WR.trans K4)) PX G3 S3.u hw hw1 NC).mono ?_;rintro r A3 ⟨sv,rv,F1,rfl,K5,hs⟩;rw[Ry]at hs;obtain⟨rfl,hRV⟩:=hs;obtain⟨L,σ,hR,hok⟩:=hRV.g;rw[ae];simp-implicitDefEqProofs only[go_sem,zS,↓reduceIte,Za,Zb,Zc,reduceCtorEq,zU,zV,Zf,Zg,Zh,Zi,Zd,Ze,zF,Ry];refine al fun A4 b5 e5 z5 B5 K6=>?_;have nK:Bl A4 b5 [.slice none 0 0]:=B5;have t5:=nK.bK (o:=0) (n:=1) (by simp);have a1:bI #[rv]:=bg (by simp only[List.all_cons,List.all_nil,aI F1];rfl);have K7:af (fun q=>q=b5) A4 (az A4 ⟨b5,0,none⟩ [rv]):=(af.refl _ _).az _ (.inl rfl);have B7:Bl (az A4 ⟨b5,0,none⟩ [rv]) b5 [rv]:=nK.az 0 [rv];have K67:af (fun _=>False) A3 (az A4 ⟨b5,0,none⟩ [rv]):=K6.trans' K7 fun q hq e=>by omega
 simp-implicitDefEqProofs only[go_sem,zS,↓reduceIte,Za,Zb,Zc,reduceCtorEq,zU,zV,Zf,Zg,Zh,Zi,Zd,Ze,zF,t5];refine⟨a1,?_⟩;rw[ae];have BM:=K5.trans K67;have Xs:=BM.bl B4 (by simp);have l5:aD (az A4 ⟨b5,0,none⟩ [rv]) (.pointer (some ⟨b5,0,none⟩)) 1=some #[rv]:=B7.aD 1 rfl;have l2:aD (az A4 ⟨b5,0,none⟩ [rv]) (.pointer (some ⟨b2,0,none⟩)) 5=some #[w1,w2,w3,w4,w5]:=Xs.aD 5 rfl;have hRX:=hR.ai K67;have PX7:=PX.ai BM;have AE:=(WR.trans K4).trans BM;have ZM:=BM.bl FP (by simp);generalize az A4 ⟨b5,0,none⟩ [rv]=A5 at*;simp-implicitDefEqProofs only[go_sem,zS,↓reduceIte,Za,Zb,Zc,reduceCtorEq,zU,zV,Zf,Zg,Zh,Zi,Zd,Ze,zF,f2,l5,l2];refine(c.chk _ _ L σ _ rv A5 (hT.ag AE) PX7 G3 S3.u hRX hok).mono ?_;rintro r A6 ⟨rfl,K8⟩;rw[ae];simp-implicitDefEqProofs only[go_sem,zS,↓reduceIte,Za,Zb,Zc,reduceCtorEq,zU,zV,Zf,Zg,Zh,Zi,Zd,Ze,zF];have Tj:=AE.trans K8;have B38:=K8.bl ZM (by simp);have B78:=K8.bl B7 (by simp);have l1:aD A6 (.pointer (some ⟨b1,0,none⟩)) 1=some #[x]:=B38.aD 1 rfl;have hx6:=((hx.ai K3).ai K4).ai (BM.trans K8);have hs8:=hRX.ai K8;obtain⟨nl,KC,uL,_⟩:=hs8.nd;have hne:=hok.ne;have c5:cell A6 ⟨b5,0,none⟩=some rv:=by rw[B78.cell];rfl
 have fin:∀(g:Fr) (X:Hp) (rb:Nat),g 3=.int .i64 0->g 5=.pointer (some ⟨b5,0,none⟩)->g 6=.bool false->g 7=.int .i64 0->g 8=.int .u8 1->g 10=.pointer (some ⟨rb,0,none⟩)->g 11=.int .i64 0->af (fun _=>False) A6 X->fJ X rb (mb 2) (nC 2) [0,0]->vc P (La ι) (mB [.t 0] Q) g X:=fun g X rb g3 g5 g6 g7 g8 g10 g11 KX hR=>by
  unfold La kA kB kF kJ kS kT kU kg kY;have c5:cell X ⟨b5,0,none⟩=some rv:=by rw[(KX.bl B78 (by simp)).cell];rfl
  have AY:decide ((0:Int)<(nl.length:Int))=true:=by
   have:0<L.length:=List.length_pos_iff.2 hne;exact decide_eq_true (by omega)
  simp-implicitDefEqProofs only[go_sem,zS,↓reduceIte,Za,Zb,Zc,reduceCtorEq,zU,zV,Zf,Zg,Zh,Zi,Zd,Ze,zF,g3,g5,g6,g7,g8,g10,g11,c5,sD,e11,KC.aq,KC.len,AY];refine(c.pln.1 (mb 2) (nC 2) [0,0] rb X (hT.ag (Tj.trans KX)) hR G2 S2).mono ?_;rintro r X1 ⟨KA,hp⟩;rw[Rz]at hp;have hp:aM X1 r (iL [1,2]):=hp;rw[ae];simp-implicitDefEqProofs only[go_sem,zS,↓reduceIte,Za,Zb,Zc,reduceCtorEq,zU,zV,Zf,Zg,Zh,Zi,Zd,Ze,zF];refine aG fun X2 p4 e4' z4' mM KB=>?_;have acx:Bl X2 p4 (iL [1,2]):=mM;simp-implicitDefEqProofs only[go_sem,zS,↓reduceIte,Za,Zb,Zc,reduceCtorEq,zU,zV,Zf,Zg,Zh,Zi,Zd,Ze,zF];refine(c.eqI [1,2] [1,2] r _ X2 (hp.ag KB (by simp)) (aM.bl acx 0 2 2 (by omega) (by simp[aA])) (by simp)).mono ?_;rintro r' X3 ⟨rfl,rfl⟩;have dq:decide (([1,2]:List Int)=[1,2])=true:=rfl;rw[ae];simp-implicitDefEqProofs only[go_sem,zS,↓reduceIte,Za,Zb,Zc,reduceCtorEq,zU,zV,Zf,Zg,Zh,Zi,Zd,Ze,zF,dq];rw[hQ];exact⟨rfl,(Tj.trans KX).trans (KA.trans KB)⟩
 unfold Rx kW kX ka kg;refine bj (fun _=>False) ?_;simp-implicitDefEqProofs only[go_sem,zS,↓reduceIte,Za,Zb,Zc,reduceCtorEq,zU,zV,Zf,Zg,Zh,Zi,Zd,Ze,zF,f1,l1,Option.isSome_none];have C1:∀X,af (fun _=>False) A6 X->ak P (ι.f 443) #[.int .i64 2] X fun r X'=>bW X' r (mb 2)/\af (fun _=>False) X X':=fun X K=>(c.dif 2 X (by omega)).mono fun r X' ⟨_,h,K'⟩=>⟨h,K'⟩
 have C2:∀X v b,af (fun _=>False) A6 X->bW X v (mb 2)->Bl X b [x,x]->ak P (ι.f 391) #[v,.slice (some ⟨b,0,none⟩) 2 2] X fun r X'=>af (fun _=>False) X X'/\∃rb,r=.tuple #[.pointer (some ⟨rb,0,none⟩),.int .i64 0]/\fJ X' rb (mb 2) (nC 2) [0,0]:=fun X v b K hv B=>by
  refine(c.sta (mb 2) (nC 2) [x,x] v _ X (hT.ag (Tj.trans K)) hv (aM.bl B 0 2 2 (by omega) (by simp)) rfl (by decide) (Fi (n:=2) (hx6.ai K) rfl) fun _ _ _=>⟨G2,S2,by decide⟩).mono ?_;rintro r X' ⟨K',hx⟩;refine⟨K',?_⟩;rcases hx with⟨h,_⟩|⟨_,h,_⟩|⟨_,_,⟨i,hi,u,hu,hu2⟩,_⟩|⟨_,_,_,h⟩
  ·exact absurd XM h
  ·exact absurd rfl h
  ·have:=us2 i u hu;omega
  ·have e:cM (aZ (mb 2) (nC 2)) (List.replicate (nC 2).length 0)=some [1,2]:=Rz;rw[e]at h;rcases h with⟨h,_⟩|⟨_,h⟩
   ·cases h
   ·exact h
 have hpush:∀X T,af (fun _=>False) X (X.push (.cells #[x,x] T))/\Bl (X.push (.cells #[x,x] T)) X.size [x,x]:=fun X T=>⟨(af.refl _ _).push _,Bl.cH X #[x,x] T⟩
 refine⟨(C1 A6 (af.refl _ _)).mono ?_,(hpush A6 _).1,?_⟩
 ·rintro v X1 ⟨hv,K9⟩;obtain⟨KP,BP⟩:=hpush X1 (ι.t 128);rw[aF];refine⟨K9,?_⟩;simp-implicitDefEqProofs only[go_sem,zS,↓reduceIte,Za,Zb,Zc,reduceCtorEq,zU,zV,Zf,Zg,Zh,Zi,Zd,Ze,zF];generalize X1.push (.cells #[x,x] (ι.t 128))=X2 at KP BP⊢;refine⟨KP,(C2 X2 v _ (K9.trans KP) (hv.ai KP) BP).mono ?_⟩;rintro r X3 ⟨KQ,rb,rfl,hR⟩;rw[aF];refine⟨KQ,?_⟩;simp-implicitDefEqProofs only[go_sem,zS,↓reduceIte,Za,Zb,Zc,reduceCtorEq,zU,zV,Zf,Zg,Zh,Zi,Zd,Ze,zF];exact fin _ X3 rb (by simp-implicitDefEqProofs only[go_sem,zS,↓reduceIte,Za,Zb,Zc,reduceCtorEq,ae,zU,zV,Zf,Zg,Zh,Zi,Zd,Ze,f3]) (by simp-implicitDefEqProofs only[go_sem,zS,↓reduceIte,Za,Zb,Zc,reduceCtorEq,ae,zU,zV,Zf,Zg,Zh,Zi,Zd,Ze]) (by simp-implicitDefEqProofs only[go_sem,zS,↓reduceIte,Za,Zb,Zc,reduceCtorEq,ae,zU,zV,Zf,Zg,Zh,Zi,Zd,Ze]) (by simp-implicitDefEqProofs only[go_sem,zS,↓reduceIte,Za,Zb,Zc,reduceCtorEq,ae,zU,zV,Zf,Zg,Zh,Zi,Zd,Ze]) (by simp-implicitDefEqProofs only[go_sem,zS,↓reduceIte,Za,Zb,Zc,reduceCtorEq,ae,zU,zV,Zf,Zg,Zh,Zi,Zd,Ze]) (by simp-implicitDefEqProofs only[go_sem,zS,↓reduceIte,Za,Zb,Zc,reduceCtorEq,ae,zU,zV,Zf,Zg,Zh,Zi,Zd,Ze]) (by simp-implicitDefEqProofs only[go_sem,zS,↓reduceIte,Za,Zb,Zc,reduceCtorEq,ae,zU,zV,Zf,Zg,Zh,Zi,Zd,Ze]) ((K9.trans KP).trans KQ) hR
 ·obtain⟨KP,BP⟩:=hpush A6 (ι.t 128);generalize A6.push (.cells #[x,x] (ι.t 128))=X2 at KP BP⊢;refine(C1 X2 KP).mono ?_;rintro v X1 ⟨hv,K9⟩;rw[aF];refine⟨K9,?_⟩;simp-implicitDefEqProofs only[go_sem,zS,↓reduceIte,Za,Zb,Zc,reduceCtorEq,zU,zV,Zf,Zg,Zh,Zi,Zd,Ze,zF];refine(C2 X1 v _ (KP.trans K9) hv (K9.bl BP (by simp))).mono ?_;rintro r X3 ⟨KQ,rb,rfl,hR⟩;rw[aF];refine⟨KQ,?_⟩;simp-implicitDefEqProofs only[go_sem,zS,↓reduceIte,Za,Zb,Zc,reduceCtorEq,zU,zV,Zf,Zg,Zh,Zi,Zd,Ze,zF];exact fin _ X3 rb (by simp-implicitDefEqProofs only[go_sem,zS,↓reduceIte,Za,Zb,Zc,reduceCtorEq,ae,zU,zV,Zf,Zg,Zh,Zi,Zd,Ze,f3]) (by simp-implicitDefEqProofs only[go_sem,zS,↓reduceIte,Za,Zb,Zc,reduceCtorEq,ae,zU,zV,Zf,Zg,Zh,Zi,Zd,Ze]) (by simp-implicitDefEqProofs only[go_sem,zS,↓reduceIte,Za,Zb,Zc,reduceCtorEq,ae,zU,zV,Zf,Zg,Zh,Zi,Zd,Ze]) (by simp-implicitDefEqProofs only[go_sem,zS,↓reduceIte,Za,Zb,Zc,reduceCtorEq,ae,zU,zV,Zf,Zg,Zh,Zi,Zd,Ze]) (by simp-implicitDefEqProofs only[go_sem,zS,↓reduceIte,Za,Zb,Zc,reduceCtorEq,ae,zU,zV,Zf,Zg,Zh,Zi,Zd,Ze]) (by simp-implicitDefEqProofs only[go_sem,zS,↓reduceIte,Za,Zb,Zc,reduceCtorEq,ae,zU,zV,Zf,Zg,Zh,Zi,Zd,Ze]) (by simp-implicitDefEqProofs only[go_sem,zS,↓reduceIte,Za,Zb,Zc,reduceCtorEq,ae,zU,zV,Zf,Zg,Zh,Zi,Zd,Ze]) ((KP.trans K9).trans KQ) hR
end Go.Mg
