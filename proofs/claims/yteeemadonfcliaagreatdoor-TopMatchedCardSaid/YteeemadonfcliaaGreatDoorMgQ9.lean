/- Lemmas of ours. No conditions. -/
import Derived.Test.YteeemadonfcliaaGreatDoorMgQ3
import Derived.Test.YteeemadonfcliaaGreatDoorMgE4
open Nat renaming reduceEqDiff→Za,reduceAdd→Zb,reduceMul→Zc,reduceLeDiff→Zd,reduceLT→Ze
open Int renaming reduceBEq→Zf,reduceBNe→Zg,reduceLE→Zh,reduceLT→Zi
set_option linter.all false
set_option maxRecDepth 100000
namespace Go.Mg
open Go Go.RowKit
def Ac (ι:aJ):S:=
 kY [kd 2 (.new (ι.t 296) #[kZ,kZ,kZ,kZ,kZ])] (kY [kd 3 (.new (ι.t 296) #[kZ,kZ,kZ,kZ,kZ])] (.seq (kY [kV 6 (.mv (.v 0)),kC 7 (.int .i64 0)] (.blk 0 (.loop (kY [kH 8 7 6] (.seq (.ite (.v 8) .skip (.exit 0)) (.seq (.blk 1 (kY [kA 9 7,kB 4 9] (kY [kG 10 0 3,kD 11 10,kA 12 4,kU 13 (.ar .add .i64 (.c (.int .i64 48)) (.t 12)),kU 14 (.ii .u8 (.t 13)),kc 15 (.cj (ι.t 19) 1 2 [.c (.int .u8 115),.t 14]),kU 16 (.m (.b2s (.t 15))),kU 17 (.m (.jA #[.string ⟨#[]⟩,.int .i64 0] [(0,(1,.t 16)),(1,(1,.c (.int .i64 1)))])),kc 18 (.cj (ι.t 297) 2 1 [.t 17]),kc 19 (.app false (ι.t 297) 2 24 #[.string ⟨#[]⟩,.int .i64 0] (.t 11) (.t 18)),kG 20 0 3,kf (.st (.t 20) (.t 19))] (kY [kV 21 (.mv (.v 4)),kC 22 (.int .i64 0)] (.blk 2 (.loop (kY [kH 23 22 21] (.seq (.ite (.v 23) .skip (.exit 2)) (.seq (.blk 3 (kY [kA 24 22,kB 5 24] (.reg [kG 25 2 3,kD 26 25,kA 27 5,kA 28 4,kU 29 (.m (.jA #[.int .i64 0,.int .i64 0] [(0,(1,.t 27)),(1,(1,.t 28))])),kc 30 (.cj (ι.t 194) 2 1 [.t 29]),kc 31 (.app false (ι.t 194) 2 16 #[.int .i64 0,.int .i64 0] (.t 26) (.t 30)),kG 32 2 3,kf (.st (.t 32) (.t 31))]))) (.reg [ke 33 22,kB 22 33])))))))))) (.reg [ke 34 7,kB 7 34]))))))) (kY [kM 35 5 3,kf (.stn 5 (.v 2) (.t 35))] .ret)))
def Ad:List RV:=[.cn 2 5]
def Rm:Nat->List BH
 |0=>[]
 |k+1=>Rm k++[([115,UInt8.ofNat (48+k)],1)]
def IJ (k i:Nat):List gR:=(List.range i).map fun(j:Nat)=>(((j:Nat):Int),((k:Nat):Int))
def Ae:Nat->List gR
 |0=>[]
 |k+1=>Ae k++IJ k k
def jD (n:Nat):jn:=⟨Rm n,[],Ae n,[],[]⟩
theorem u5:∀n,(Rm n).length=n
 |0=>rfl
 |n+1=>by rw[Rm,List.length_append,u5 n];rfl
theorem BW (k i:Nat):(IJ k i).length=i:=by simp[IJ]
theorem G7 (k i:Nat):IJ k (i+1)=IJ k i++[((i:Int),(k:Int))]:=by simp[IJ,List.range_succ]
theorem Ca:∀n,(Ae n).length<=n*n
 |0=>by simp[Ae]
 |n+1=>by
  rw[Ae,List.length_append,BW];have:=Ca n;have e:(n+1)*(n+1)=n*n+n+(n+1):=by rw[Nat.add_mul,Nat.mul_add];omega
  omega
variable {P:Program}
theorem nj {α:Type} {enc:α->List Value} {k:Nat} {T:TypeId} {bytes:Nat} {z:Array Value} {lv sv:Value} {H:Hp} {a d p off:Nat} {e:Env} {f:Fr} {Q:Fr->Hp->Prop} {b C:Nat} {cs:List Value} {L M:List α}
  (hk:∀x,(enc x).length=k) (h1c:∀x,∀v∈enc x,v.oneCell'=true) (hs:dG enc k H lv L) (hn:∀q,az lv q->C<=q) (hx:bo enc k H sv M) (hz:z.size=k) (hb:bytes<=64) (h1:L.length+M.length<=1000000000)
  (hB:Bl H b cs) (hbC:b<C) (hoff:off<cs.length) (hf:f d=.pointer (some ⟨b,0,none⟩)) (hap:(p==a)=false)
  (hK:∀v' H',dG enc k H' v' (L++M)->(∀q,az v' q->az lv q\/H.size<=q)->Bl H' b (cs.set off v')->af (fun q=>q=b\/az lv q) H H'->Q f H'):
  qN false T k bytes z lv sv H (vQ P (.t a) [.p (.t p) (.fa off (.v d)),.e .no (.st (.t p) (.t a))] e f Q):=by
 refine EY hk h1c hs hx hz (by unfold maxLen;omega) (Nat.le_trans (Nat.mul_le_mul h1 hb) (by omega)) fun v' H' O' K' o'=>?_;have Zu:¬a=p:=fun h=>by simp[h]at hap
 have B':=K'.bl hB (fun h=>by have:=hn b h;omega);have hsl:ax v':=by obtain⟨_,_,_,rfl⟩:=O'.shape;trivial
 have bO:=K'.size;have hlt:=hB.lt;have K2:af (fun q=>q=b\/az lv q) H (al H' ⟨b,off,none⟩ v'):=(K'.mono fun q _ h=>.inr h).al _ (.inl (.inl rfl));rw[ae];simp only[AP,EP,su,ae,PX.pre,PX.val,Nn,oD,vV,oE,x9,rz,lU,aV,hf,jK,sD,Nat.zero_add,if_true,Zu,if_false,EX.wp,bk,QE,and_true,true_and];exact⟨⟨B'.bk hoff,aM hsl⟩,hK v' _ (O'.ag ((af.refl (fun q=>q=b) H').al v' (.inl rfl)) fun q hq e=>by
  rcases o' q hq with h|h
  ·have:=hn q h;omega
  ·omega) o' (B'.al off v') K2⟩
def jd (P:Program) (k:FuncId):Prop:=∀(n:Nat) (H:Hp),n<=5->an P k #[.int .i64 (n:Int)] H fun r H'=>(∃s b d a m,r=.agg #[s,b,d,a,m])/\cC H' r (jD n)/\af (fun _=>False) H H'
theorem KU {ι:aJ} {k:FuncId} (hk:aq P k (Ac ι) Ad 1):jd P k:=by
 intro n H hn;refine qI fun Q hQ=>?_;refine ah hk (args:=[_]) (by simp) ?_;unfold Ac Ad kA kB kC kD ke kG kH kM kU kV kc kd kf kY kZ;simp-implicitDefEqProofs only[go_sem,zS,↓reduceIte,Za,Zb,Zc,reduceCtorEq,zU,zV,Zf,Zg,Zh,Zi,Zd,Ze,zF];refine ay fun H1 b2 e1 z1 B1 K1=>?_;simp-implicitDefEqProofs only[go_sem,zS,↓reduceIte,Za,Zb,Zc,reduceCtorEq,zU,zV,Zf,Zg,Zh,Zi,Zd,Ze,zF];refine ay fun H2 b3 e2 z2 B2 K2=>?_;have eB:Bl H1 b2 [.slice none 0 0,.slice none 0 0,.slice none 0 0,.slice none 0 0,.slice none 0 0]:=B1;have vt:Bl H2 b3 [.slice none 0 0,.slice none 0 0,.slice none 0 0,.slice none 0 0,.slice none 0 0]:=B2;have nO:=K2.bl eB (by simp);have s1:=K1.size;have s2:=K2.size;have aaJ:=vt.lt;have yQ:=eB.lt;have hb3:H1.size<=b3:=by omega
 have fy:=K1.trans K2;have hb:b3<H2.size:=vt.lt;simp-implicitDefEqProofs only[go_sem,zS,↓reduceIte,Za,Zb,Zc,reduceCtorEq,ae,zU,zV,Zf,Zg,Zh,Zi,Zd,Ze,zF];obtain⟨I,hI⟩:∃I:Nat->Hp->Prop,I=fun k X=>∃sv dv,dG gE 2 X sv (Rm k)/\QR X dv (Ae k)/\(∀q,az sv q->H2.size<=q)/\(∀q,az dv q->H2.size<=q)/\(∀q,az dv q->¬az sv q)/\Bl X b3 [sv,.slice none 0 0,dv,.slice none 0 0,.slice none 0 0]/\af (fun q=>q=b3\/H2.size<=q) H2 X:=⟨_,rfl⟩
 refine aL [8,4,21,22,23,5,7] rfl (fun t f X=>∃k:Nat,k<=n/\t=n -k/\f 7=.int .i64 (k:Int)/\I k X) n ⟨0,by omega,by omega,by simp-implicitDefEqProofs only[go_sem,zS,↓reduceIte,Za,Zb,Zc,reduceCtorEq,ae,zU,zV,Zf,Zg,Zh,Zi,Zd,Ze],by
  rw[hI];exact⟨_,_,dG.nil _,dG.nil _,fun q h=>h.elim,fun q h=>h.elim,fun q h=>h.elim,vt,af.refl _ _⟩⟩ ?_
 rintro t g X ⟨k,Sn,rfl,g7,hIk⟩;simp-implicitDefEqProofs only[go_sem,zS,↓reduceIte,Za,Zb,Zc,reduceCtorEq,ae,zU,zV,Zf,Zg,Zh,Zi,Zd,Ze]at g7;rw[hI]at hIk;obtain⟨sv,dv,O1,O2,o1,o2,o3,BX,KX⟩:=hIk;have sX:=KX.size;have c0:cell X ⟨b3,0,none⟩=some sv:=by rw[BX.cell];rfl
 simp-implicitDefEqProofs only[go_sem,zS,↓reduceIte,Za,Zb,Zc,reduceCtorEq,zU,zV,Zf,Zg,Zh,Zi,Zd,Ze,zF,g7];refine aC (fun hlt=>?_) (fun gx=>?_)
 ·have hlt:k<n:=by omega
  have hw:IntKind.u8.wrap (IntKind.i64.wrap (48+(k:Int)))=((UInt8.ofNat (48+k)).toNat:Int):=by
   have:k=0\/k=1\/k=2\/k=3\/k=4:=by omega
   rcases this with rfl|rfl|rfl|rfl|rfl<;>rfl
  simp-implicitDefEqProofs only[go_sem,zS,↓reduceIte,Za,Zb,Zc,reduceCtorEq,zU,zV,Zf,Zg,Zh,Zi,Zd,Ze,zF,c0,ai,hw];refine aF fun X1 b4 e4 z4 B4 K4=>?_;have Dc:Bl X1 b4 (w8 [115,UInt8.ofNat (48+k)]):=B4;have v4:aG X1 (.slice (some ⟨b4,0,none⟩) 2 2) (w8 [115,UInt8.ofNat (48+k)]):=aG.bl Dc 0 2 2 (by omega) (by simp[w8]);have h4:=v4.cg;simp-implicitDefEqProofs only[go_sem,zS,↓reduceIte,Za,Zb,Zc,reduceCtorEq,zU,zV,Zf,Zg,Zh,Zi,Zd,Ze,zF,h4,toBA_w8];refine⟨EU h4,?_⟩;refine aF fun X2 b5 e5 z5 B5 K5=>?_;have Em:Bl X2 b5 (gE ([115,UInt8.ofNat (48+k)],1)):=B5;have Vo:=K4.trans K5;have s4:=K4.size;have s5:=K5.size;simp-implicitDefEqProofs only[go_sem,zS,↓reduceIte,Za,Zb,Zc,reduceCtorEq,zU,zV,Zf,Zg,Zh,Zi,Zd,Ze,zF];refine nj (C:=H2.size) i7 w7 (O1.ag Vo (by simp)) o1 (bo.bl Em (l:=[([115,UInt8.ofNat (48+k)],1)]) rfl (by simp[gE]) (by simp)) rfl (by omega) (by rw[u5];simp;omega) (Vo.bl BX (by simp)) hb (by simp) (by simp-implicitDefEqProofs only[go_sem,zS,↓reduceIte,Za,Zb,Zc,reduceCtorEq,ae,zU,zV,Zf,Zg,Zh,Zi,Zd,Ze]) rfl fun nT X3 O3 o4 B3 K6=>?_;have B3:Bl X3 b3 [nT,.slice none 0 0,dv,.slice none 0 0,.slice none 0 0]:=B3;have s6:=K6.size;have hsv:∀q,az nT q->H2.size<=q:=fun q hq=>by
   rcases o4 q hq with h|h
   ·exact o1 q h
   ·omega
  have O2X:QR X3 dv (Ae k):=(O2.ag Vo (by simp)).ag K6 fun q hq h=>by
   rcases h with h|h
   ·have:=o2 q hq;omega
   ·exact o3 q hq h
  have hds:∀q,az dv q->¬az nT q:=fun q hq h=>by
   rcases o4 q h with h|h
   ·exact o3 q hq h
   ·have:=O2.bM hq;omega
  have Vl:af (fun q=>q=b3\/H2.size<=q) H2 X3:=(KX.trans Vo.any).trans (K6.mono fun q _ h=>by
   rcases h with h|h
   ·exact .inl h
   ·exact .inr (o1 q h))
  simp-implicitDefEqProofs only[go_sem,zS,↓reduceIte,Za,Zb,Zc,reduceCtorEq,zU,zV,Zf,Zg,Zh,Zi,Zd,Ze,zF];refine aL [23,5,22] rfl (fun t f X=>∃i:Nat,i<=k/\t=k -i/\f 22=.int .i64 (i:Int)/\∃P1,QR X P1 (Ae k++IJ k i)/\(∀q,az P1 q->H2.size<=q)/\(∀q,az P1 q->¬az nT q)/\Bl X b3 [nT,.slice none 0 0,P1,.slice none 0 0,.slice none 0 0]/\dG gE 2 X nT (Rm (k+1))/\af (fun q=>q=b3\/H2.size<=q) H2 X) k ⟨0,by omega,by omega,by simp-implicitDefEqProofs only[go_sem,zS,↓reduceIte,Za,Zb,Zc,reduceCtorEq,ae,zU,zV,Zf,Zg,Zh,Zi,Zd,Ze],dv,by rw[IJ];simpa using O2X,o2,hds,B3,O3,Vl⟩ ?_;rintro t g X4 ⟨i,hi,rfl,g22,P1,M1,m1,m2,MB,M2,MK⟩;simp-implicitDefEqProofs only[go_sem,zS,↓reduceIte,Za,Zb,Zc,reduceCtorEq,ae,zU,zV,Zf,Zg,Zh,Zi,Zd,Ze]at g22;have c2:cell X4 ⟨b3,2,none⟩=some P1:=by rw[MB.cell];rfl
  have sM:=MK.size;simp-implicitDefEqProofs only[go_sem,zS,↓reduceIte,Za,Zb,Zc,reduceCtorEq,zU,zV,Zf,Zg,Zh,Zi,Zd,Ze,zF,g22];refine aC (fun yQ=>?_) (fun XC=>?_)
  ·have yQ:i<k:=by omega
   simp-implicitDefEqProofs only[go_sem,zS,↓reduceIte,Za,Zb,Zc,reduceCtorEq,zU,zV,Zf,Zg,Zh,Zi,Zd,Ze,zF,c2,ai];refine aF fun X5 b6 e6 z6 B6 K7=>?_;have ID:Bl X5 b6 (pE (((i:Nat):Int),((k:Nat):Int))):=B6;have s7:=K7.size;simp-implicitDefEqProofs only[go_sem,zS,↓reduceIte,Za,Zb,Zc,reduceCtorEq,zU,zV,Zf,Zg,Zh,Zi,Zd,Ze,zF];have MF:=Ca k;have hkk:k*k<=25:=Nat.mul_le_mul (show k<=5 by omega) (show k<=5 by omega);refine nj (C:=H2.size) oG oH (M1.ag K7 (by simp)) m1 (bo.bl ID (l:=[(((i:Nat):Int),((k:Nat):Int))]) rfl (by simp[pE]) (by simp)) rfl (by omega) (by rw[List.length_append,BW];simp;omega) (K7.bl MB (by simp)) hb (by simp) (by simp-implicitDefEqProofs only[go_sem,zS,↓reduceIte,Za,Zb,Zc,reduceCtorEq,ae,zU,zV,Zf,Zg,Zh,Zi,Zd,Ze]) rfl fun dv2 X6 O6 o6 B8 K8=>?_;have B8:Bl X6 b3 [nT,.slice none 0 0,dv2,.slice none 0 0,.slice none 0 0]:=B8;have K8':af (fun q=>q=b3\/H2.size<=q) X5 X6:=K8.mono fun q _ h=>by
    rcases h with h|h
    ·exact .inl h
    ·exact .inr (m1 q h)
   simp-implicitDefEqProofs only[go_sem,zS,↓reduceIte,Za,Zb,Zc,reduceCtorEq,ae,zU,zV,Zf,Zg,Zh,Zi,Zd,Ze,zF,g22];refine⟨k -(i+1),by omega,⟨i+1,by omega,by omega,?_,dv2,?_,fun q hq=>?_,fun q hq h=>?_,B8,(M2.ag K7 (by simp)).ag K8 fun q hq h=>?_,(MK.trans K7.any).trans K8'⟩⟩
   ·rw[IntWalk.i64_in _ (by omega)];rfl
   ·rw[G7,<-List.append_assoc];exact O6
   ·rcases o6 q hq with h|h
    ·exact m1 q h
    ·omega
   ·rcases o6 q hq with h1|h1
    ·exact m2 q h1 h
    ·have:=M2.bM h;omega
   ·rcases h with h|h
    ·have:=hsv q hq;omega
    ·exact m2 q h hq
  ·have hik:i=k:=by omega
   subst hik;simp-implicitDefEqProofs only[go_sem,zS,↓reduceIte,Za,Zb,Zc,reduceCtorEq,ae,zU,zV,Zf,Zg,Zh,Zi,Zd,Ze,zF,g7];refine⟨n -(i+1),by omega,⟨i+1,by omega,by omega,?_,?_⟩⟩
   ·rw[IntWalk.i64_in _ (by omega)];rfl
   ·rw[hI];exact⟨nT,P1,M2,M1,hsv,m1,m2,MB,MK⟩
 ·have Zv:k=n:=by omega
  subst Zv;have BX2:=KX.bl nO (by omega);have l3:aI X (.pointer (some ⟨b3,0,none⟩)) 5=some #[sv,.slice none 0 0,dv,.slice none 0 0,.slice none 0 0]:=BX.aI 5 rfl;have t2:=BX2.bK (o:=0) (n:=5) (by simp);have K7:af (fun q=>q=b2) X (aA X ⟨b2,0,none⟩ [sv,.slice none 0 0,dv,.slice none 0 0,.slice none 0 0]):=(af.refl _ _).aA _ (.inl rfl);have B7:Bl (aA X ⟨b2,0,none⟩ [sv,.slice none 0 0,dv,.slice none 0 0,.slice none 0 0]) b2 [sv,.slice none 0 0,dv,.slice none 0 0,.slice none 0 0]:=BX2.aA 0 [sv,.slice none 0 0,dv,.slice none 0 0,.slice none 0 0];have l7:aI (aA X ⟨b2,0,none⟩ [sv,.slice none 0 0,dv,.slice none 0 0,.slice none 0 0]) (.pointer (some ⟨b2,0,none⟩)) 5=some #[sv,.slice none 0 0,dv,.slice none 0 0,.slice none 0 0]:=B7.aI 5 rfl;have ha:bQ #[sv,.slice none 0 0,dv,.slice none 0 0,.slice none 0 0]:=bE (by simp only[List.all_cons,List.all_nil,aM O1.sl.ax,aM O2.sl.ax];rfl);simp-implicitDefEqProofs only[go_sem,zS,↓reduceIte,Za,Zb,Zc,reduceCtorEq,ae,zU,zV,Zf,Zg,Zh,Zi,Zd,Ze,zF,l3,t2,l7];refine⟨ha,?_⟩;rw[hQ];have n1:∀q,az sv q->¬q=b2:=fun q hq e=>by have:=o1 q hq;omega
  have n2:∀q,az dv q->¬q=b2:=fun q hq e=>by have:=o2 q hq;omega
  refine⟨⟨_,_,_,_,_,rfl⟩,⟨_,_,_,_,_,[],rfl,(O1.ag K7 n1).sl,bo.nil _ _ _,(O2.ag K7 n2).sl,bo.nil _ _ _,bo.nil _ _ _,⟨rfl,fun i h=>by simp at h⟩⟩,?_⟩;exact(fy.trans' KX fun q hq e=>by omega).trans' K7 fun q hq e=>by omega
end Go.Mg
namespace Go.Mg
open Go Go.RowKit
structure qZ (R:Nat->Hp->Value->Prop) (A0 X:Hp) (l:List (Nat×Value)):Prop where
 k:af (fun _=>False) A0 X
 v:∀p∈l,R p.1 X p.2
section
variable {P:Program} {R:Nat->Hp->Value->Prop} {A0 X:Hp} {l:List (Nat×Value)} {W:Nat->Prop} {e:Env} {f:Fr} {t m:T} {Q:Fr->Hp->Prop}
theorem qZ.nil (A0:Hp):qZ R A0 A0 []:=⟨af.refl _ _,fun p h=>absurd h List.not_mem_nil⟩
theorem qZ.snoc (hR:∀i X X' v,R i X v->af (fun _=>False) X X'->R i X' v) (h:qZ R A0 X l) {X':Hp} {i:Nat} {v:Value} (hk:af (fun _=>False) X X') (hv:R i X' v):qZ R A0 X' ((i,v)::l):=
 ⟨h.k.trans hk,fun p hp=>by
  rcases List.mem_cons.1 hp with rfl|hp
  ·exact hv
  ·exact hR _ _ _ _ (h.v p hp) hk⟩
theorem qZ.call (hR:∀i X X' v,R i X v->af (fun _=>False) X X'->R i X' v) (h:qZ R A0 X l) {i:Nat} {j:FuncId} {xs:List A} {args:Array Value} (hc:∀X,af (fun _=>False) A0 X->an P j args X fun r X'=>R i X' r/\af (fun _=>False) X X') (ha:(xs.map (A.rd e f)).toArray=args)
  (hK:∀v X',qZ R A0 X' ((i,v)::l)->cK P W t ((i,v)::e) f X' Q) (hm:cK P W m e f X Q):cK P W (.wcons (.t i) none (.call j xs) t m) e f X Q:=by
 rw[iy];refine⟨?_,hm⟩
 show an P j (xs.map (A.rd e f)).toArray X _
 rw[ha];refine(hc X h.k).mono ?_;rintro r X' ⟨hr,K⟩;rw[aK];exact⟨K.any,hK r X' (h.snoc hR K hr)⟩
theorem qZ.new (hR:∀i X X' v,R i X v->af (fun _=>False) X X'->R i X' v) (h:qZ R A0 X l) {i:Nat} {z:Array Value} {T:TypeId} (hi:∀X b,A0.size<=b->Bl X b z.toList->R i X (.pointer (some ⟨b,0,none⟩)))
  (hK:∀v X',qZ R A0 X' ((i,v)::l)->cK P W t e (bN f i v) X' Q) (hm:cK P W m e f X Q):cK P W (.wcons (.v i) none (.new T z) t m) e f X Q:=by
 rw[iy];refine⟨?_,hm⟩;have K:=(af.refl (fun _=>False) X).push (.cells z T);simp only[EX.wp];rw[aK];exact⟨K.any,hK _ _ (h.snoc hR K (hi _ _ h.k.size (Bl.cW X z T)))⟩
theorem qZ.jA (hR:∀i X X' v,R i X v->af (fun _=>False) X X'->R i X' v) (h:qZ R A0 X l) {i n s:Nat} {xs:List A} {L:List Value} {T:TypeId} (ha:xs.flatMap (fun a=>(A.rd e f a).cells.toList)=L) (hs:∀a∈xs,(A.rd e f a).cells.size=s) (hi:∀X b,Bl X b L->R i X (.slice (some ⟨b,0,none⟩) n n))
  (hK:∀v X',qZ R A0 X' ((i,v)::l)->cK P W t ((i,v)::e) f X' Q) (hm:cK P W m e f X Q):cK P W (.wcons (.t i) none (.cj T s n xs) t m) e f X Q:=by
 rw[iy];refine⟨?_,hm⟩;simp only[EX.wp,ha];have K:=(af.refl (fun _=>False) X).push (.cells L.toArray T);rw[aK];exact⟨hs,K.any,hK _ _ (h.snoc hR K (hi _ _ (by simpa using Bl.cW X L.toArray T)))⟩
end
def xw:List Value:=[.slice none 0 0,.slice none 0 0,.slice none 0 0,.slice none 0 0,.slice none 0 0]
theorem KV {X:Hp} {b:Nat} (h:Bl X b xw):xp X b:=⟨_,h,by
 intro x hx;simp only[xw,List.mem_cons,List.not_mem_nil,or_false,or_self]at hx;subst hx;trivial⟩
def P2 (p:eX) (fx:List Int) (X:Hp) (r:Value) (X':Hp):Prop:=∃pv,r=.tuple #[pv,.int .i64 0]/\(∀Y W,af W X' Y->(∀q,W q->q<X.size/\xp X q)->dE Y pv p fx)/\af (fun _=>False) X X'
def La (p:eX) (fx:List Int) (A0:Hp) (s s':Nat) (f:Fr) (Q:Fr->Hp->Prop):Prop:=∀f' X' b w1 w2 w3 w4 w5,(∀j,j≠s->j≠s'->f' j=f j)->f' s=.pointer (some ⟨b,0,none⟩)->f' s'=.int .i64 0->A0.size<=b->Bl X' b [w1,w2,w3,w4,w5]->dE X' (.agg #[w1,w2,w3,w4,w5]) p fx->af (fun _=>False) A0 X'->Q f' X'
def Zw (a b c d s s':Nat):T:=.px (.t b) none (.mv (.t a)) (.px (.t c) none (.ext (.t b) 0) (.px (.t d) none (.ext (.t b) 1) (.wcons .no none (.stn 5 (.v s) (.t c)) (.px (.v s') none (.mv (.t d)) .done) .wnil)))
def Zx (ι:aJ) (a b c d s s':Nat):T:=.px (.t b) none (.mv (.t a)) (.px (.t c) none (.ext (.t b) 0) (.px (.t d) none (.ext (.t b) 1) (.wcons (.v s) none (.new (ι.t 358) #[.slice none 0 0,.slice none 0 0,.slice none 0 0,.slice none 0 0,.slice none 0 0]) (.wcons .no none (.stn 5 (.v s) (.t c)) (.px (.v s') none (.mv (.t d)) .done) .wnil) .wnil)))
section
variable {P:Program} {ι:aJ} {p:eX} {fx:List Int} {A0 X:Hp} {e:Env} {f g:Fr} {m:T} {Q:Fr->Hp->Prop} {a b c d s s':Nat} {j:FuncId} {xs:List A} {args:Array Value}
theorem Cb {pv:Value} {X Y X2:Hp} {b0:Nat} (hK:La p fx A0 s s' f Q) (hA:A0.size<=b0) (hg:∀j,j≠s->j≠s'->g j=f j) (gs:g s=.pointer (some ⟨b0,0,none⟩)) (g':g s'=.int .i64 0) (KA:af (fun _=>False) A0 X) (hB:Bl X b0 xw) (hP:∀Y W,af W X Y->(∀q,W q->q=b0)->dE Y pv p fx):
  (QD X (.pointer (some ⟨b0,0,none⟩)) 5/\pv.cells.size=5/\bQ pv.cells)/\af (fun q=>A0.size<=q) X (vy X (.pointer (some ⟨b0,0,none⟩)) pv.cells.toList)/\Q g (vy X (.pointer (some ⟨b0,0,none⟩)) pv.cells.toList):=by
 obtain⟨w1,w2,w3,w4,w5,vs,ms,rfl,hp⟩:=hP X (fun _=>False) (af.refl _ _) fun q h=>h.elim;have KK:∀l,af (fun q=>q=b0) X (aA X ⟨b0,0,none⟩ l):=fun l=>(af.refl _ _).aA l (.inl rfl);have ha:bQ #[w1,w2,w3,w4,w5]:=bE (by simp only[List.all_cons,List.all_nil,aM hp.e.ax,aM hp.d.ax,aM hp.s.ax,aM hp.m.ax,aM hp.f.ax];rfl);refine⟨⟨hB.bK (o:=0) (n:=5) (by simp[xw]),rfl,ha⟩,(KK _).mono fun q _ e=>by omega,?_⟩;exact hK g _ b0 w1 w2 w3 w4 w5 hg gs g' hA (hB.aA 0 [w1,w2,w3,w4,w5]) (hP _ _ (KK _) fun q h=>h) (KA.trans' (KK _) fun q hq e=>by omega)
theorem P3 (hc:an P j args X (P2 p fx X)) (ha:(xs.map (A.rd e g)).toArray=args) (hK:La p fx A0 s s' f Q) {b0:Nat} (hA:A0.size<=b0) (KA:af (fun _=>False) A0 X) (hB:Bl X b0 xw) (hg:∀j,j≠s->j≠s'->g j=f j) (gs:g s=.pointer (some ⟨b0,0,none⟩)) (hss:s≠s') (h1:¬b=c) (h2:¬c=d) (hm:cK P (fun q=>A0.size<=q) m e g X Q):
  cK P (fun q=>A0.size<=q) (.wcons (.t a) none (.call j xs) (Zw a b c d s s') m) e g X Q:=by
 rw[iy];refine⟨?_,hm⟩
 show an P j (xs.map (A.rd e g)).toArray X _
 rw[ha];refine hc.mono ?_;rintro r X' ⟨pv,rfl,hP,K⟩;have lt:=hB.lt;have:=Cb (g:=bN g s' (.int .i64 0)) (pv:=pv) (Y:=X') (X2:=X') hK hA (fun i h3 h4=>by simp only[bN,h4,if_false];exact hg i h3 h4) (by simp only[bN,hss,if_false];exact gs) (by simp only[bN,if_true]) (KA.trans K) (K.bl hB (by simp)) (fun Y W KW hW=>hP Y W KW fun q hq=>by
  rw[hW q hq];exact⟨lt,KV hB⟩)
 unfold Zw;rw[aK];refine⟨K.any,?_⟩;simp-implicitDefEqProofs only[go_sem,zS,↓reduceIte,Za,Zb,Zc,reduceCtorEq,zU,zV,Zf,Zg,Zh,Zi,Zd,Ze,zF,gs,h1,h2];exact this
theorem P4 (hc:an P j args X (P2 p fx X)) (ha:(xs.map (A.rd e g)).toArray=args) (hK:La p fx A0 s s' f Q) (KA:af (fun _=>False) A0 X) (hg:∀j,j≠s->j≠s'->g j=f j) (hss:s≠s') (h1:¬b=c) (h2:¬c=d) (hm:cK P (fun q=>A0.size<=q) m e g X Q):
  cK P (fun q=>A0.size<=q) (.wcons (.t a) none (.call j xs) (Zx ι a b c d s s') m) e g X Q:=by
 rw[iy];refine⟨?_,hm⟩
 show an P j (xs.map (A.rd e g)).toArray X _
 rw[ha];refine hc.mono ?_;rintro r X' ⟨pv,rfl,hP,K⟩;have K2:=(af.refl (fun _=>False) X').push (.cells #[.slice none 0 0,.slice none 0 0,.slice none 0 0,.slice none 0 0,.slice none 0 0] (ι.t 358));have B2:Bl (X'.push (.cells #[.slice none 0 0,.slice none 0 0,.slice none 0 0,.slice none 0 0,.slice none 0 0] (ι.t 358))) X'.size xw:=Bl.cW X' #[.slice none 0 0,.slice none 0 0,.slice none 0 0,.slice none 0 0,.slice none 0 0] (ι.t 358);have hA:=(KA.trans K).size;have hs:¬s=s':=hss;unfold Zx;rw[aK];refine⟨K.any,?_⟩;simp-implicitDefEqProofs only[go_sem,zS,↓reduceIte,Za,Zb,Zc,reduceCtorEq,zU,zV,Zf,Zg,Zh,Zi,Zd,Ze,zF,h1,h2,hs];generalize X'.push (.cells #[.slice none 0 0,.slice none 0 0,.slice none 0 0,.slice none 0 0,.slice none 0 0] (ι.t 358))=X2 at*;have:=Cb (g:=bN (bN g s (.pointer (some ⟨X'.size,0,none⟩))) s' (.int .i64 0)) (pv:=pv) (Y:=X') (X2:=X') hK hA (fun i h3 h4=>by simp only[bN,h3,h4,if_false];exact hg i h3 h4) (by simp only[bN,hss,if_false,if_true]) (by simp only[bN,if_true]) ((KA.trans K).trans K2) B2 (fun Y W KW hW=>hP Y (fun _=>False) (K2.trans' KW fun q hq e=>by have:=hW q e;omega) fun q h=>h.elim);exact⟨K2.any,this⟩
end
end Go.Mg
namespace Go.Mg
open Go Go.RowKit
def G8 (ι:aJ):S:=
 (.dr (kW 16 (.m (.ldn 1 (.v 1))) (kW 17 (.m (.ldn 1 (.v 1))) (kW 18 (.m (.ldn 1 (.v 1))) (ka 15 (kg (ι.f 443) [.c (.int .i64 3)]) (ka 19 (.cj (ι.t 128) 1 3 [.t 16,.t 17,.t 18]) (ka 20 (kg (ι.f 376) [.t 15,.t 19,.c (kZ)]) (kW 14 (.mv (.t 20)) (kW 21 (.ext (.t 14) 0) (kW 22 (.ext (.t 14) 1) (.wcons (.v 2) .none (.new (ι.t 358) #[kZ,kZ,kZ,kZ,kZ]) (kb (.stn 5 (.v 2) (.t 21)) (kX 3 (.mv (.t 22)) .done) .wnil) .wnil)))) (.wcons (.v 2) .none (.new (ι.t 358) #[kZ,kZ,kZ,kZ,kZ]) (ka 20 (kg (ι.f 376) [.t 15,.t 19,.c (kZ)]) (kW 14 (.mv (.t 20)) (kW 21 (.ext (.t 14) 0) (kW 22 (.ext (.t 14) 1) (kb (.stn 5 (.v 2) (.t 21)) (kX 3 (.mv (.t 22)) .done) .wnil)))) .wnil) .wnil)) (.wcons (.v 2) .none (.new (ι.t 358) #[kZ,kZ,kZ,kZ,kZ]) (ka 19 (.cj (ι.t 128) 1 3 [.t 16,.t 17,.t 18]) (ka 20 (kg (ι.f 376) [.t 15,.t 19,.c (kZ)]) (kW 14 (.mv (.t 20)) (kW 21 (.ext (.t 14) 0) (kW 22 (.ext (.t 14) 1) (kb (.stn 5 (.v 2) (.t 21)) (kX 3 (.mv (.t 22)) .done) .wnil)))) .wnil) .wnil) .wnil)) (ka 19 (.cj (ι.t 128) 1 3 [.t 16,.t 17,.t 18]) (ka 15 (kg (ι.f 443) [.c (.int .i64 3)]) (ka 20 (kg (ι.f 376) [.t 15,.t 19,.c (kZ)]) (kW 14 (.mv (.t 20)) (kW 21 (.ext (.t 14) 0) (kW 22 (.ext (.t 14) 1) (.wcons (.v 2) .none (.new (ι.t 358) #[kZ,kZ,kZ,kZ,kZ]) (kb (.stn 5 (.v 2) (.t 21)) (kX 3 (.mv (.t 22)) .done) .wnil) .wnil)))) (.wcons (.v 2) .none (.new (ι.t 358) #[kZ,kZ,kZ,kZ,kZ]) (ka 20 (kg (ι.f 376) [.t 15,.t 19,.c (kZ)]) (kW 14 (.mv (.t 20)) (kW 21 (.ext (.t 14) 0) (kW 22 (.ext (.t 14) 1) (kb (.stn 5 (.v 2) (.t 21)) (kX 3 (.mv (.t 22)) .done) .wnil)))) .wnil) .wnil)) (.wcons (.v 2) .none (.new (ι.t 358) #[kZ,kZ,kZ,kZ,kZ]) (ka 15 (kg (ι.f 443) [.c (.int .i64 3)]) (ka 20 (kg (ι.f 376) [.t 15,.t 19,.c (kZ)]) (kW 14 (.mv (.t 20)) (kW 21 (.ext (.t 14) 0) (kW 22 (.ext (.t 14) 1) (kb (.stn 5 (.v 2) (.t 21)) (kX 3 (.mv (.t 22)) .done) .wnil)))) .wnil) .wnil) .wnil)) (.wcons (.v 2) .none (.new (ι.t 358) #[kZ,kZ,kZ,kZ,kZ]) (ka 15 (kg (ι.f 443) [.c (.int .i64 3)]) (ka 19 (.cj (ι.t 128) 1 3 [.t 16,.t 17,.t 18]) (ka 20 (kg (ι.f 376) [.t 15,.t 19,.c (kZ)]) (kW 14 (.mv (.t 20)) (kW 21 (.ext (.t 14) 0) (kW 22 (.ext (.t 14) 1) (kb (.stn 5 (.v 2) (.t 21)) (kX 3 (.mv (.t 22)) .done) .wnil)))) .wnil) .wnil) (ka 19 (.cj (ι.t 128) 1 3 [.t 16,.t 17,.t 18]) (ka 15 (kg (ι.f 443) [.c (.int .i64 3)]) (ka 20 (kg (ι.f 376) [.t 15,.t 19,.c (kZ)]) (kW 14 (.mv (.t 20)) (kW 21 (.ext (.t 14) 0) (kW 22 (.ext (.t 14) 1) (kb (.stn 5 (.v 2) (.t 21)) (kX 3 (.mv (.t 22)) .done) .wnil)))) .wnil) .wnil) .wnil)) .wnil)))))))
def MX (ι:aJ):S:=
 (.dr (kW 38 (.m (.ldn 1 (.v 1))) (kW 39 (.m (.ldn 1 (.v 1))) (ka 37 (kg (ι.f 443) [.c (.int .i64 2)]) (ka 40 (.cj (ι.t 128) 1 2 [.t 38,.t 39]) (ka 41 (kg (ι.f 391) [.t 37,.t 40]) (kW 36 (.mv (.t 41)) (kW 42 (.ext (.t 36) 0) (kW 43 (.ext (.t 36) 1) (kX 10 (.mv (.t 42)) (kX 11 (.mv (.t 43)) .done))))) .wnil) .wnil) (ka 40 (.cj (ι.t 128) 1 2 [.t 38,.t 39]) (ka 37 (kg (ι.f 443) [.c (.int .i64 2)]) (ka 41 (kg (ι.f 391) [.t 37,.t 40]) (kW 36 (.mv (.t 41)) (kW 42 (.ext (.t 36) 0) (kW 43 (.ext (.t 36) 1) (kX 10 (.mv (.t 42)) (kX 11 (.mv (.t 43)) .done))))) .wnil) .wnil) .wnil)))))
def G9 (ι:aJ):S:=
 (kY [kA 44 3,kU 45 (.cm .eql .i64 (.t 44) (.c (.int .i64 0))),kF 46 45,kS 47 46 true 7,kT 48 46 true (.cm .eql .i64 (.t 47) (.c (.int .i64 0))),kJ 49 46 48,kF 50 49,kS 51 50 true 6,kT 52 50 true (.not (.t 51)),kJ 53 50 52,kF 54 53,kS 55 54 true 8,kT 56 54 true (.cm .eql .u8 (.t 55) (.c (.int .u8 1))),kJ 57 54 56,kF 58 57,kT 59 58 true (.fa 0 (.v 5)),kT 60 58 true (.ld (.t 59)),kT 61 58 true (.m (.lenl (.t 60))),kT 62 58 true (.cm .gtr .i64 (.t 61) (.c (.int .i64 0))),kJ 63 58 62,kF 64 63,kS 65 64 true 11,kT 66 64 true (.cm .eql .i64 (.t 65) (.c (.int .i64 0))),kJ 67 64 66,kF 68 67,kS 69 68 true 10,.ge (.t 70) (.t 68) true (kg (ι.f 382) [.t 69]),.ge (.t 71) (.t 68) true (.cj (ι.t 26) 1 2 [.c (.int .i64 1),.c (.int .i64 2)]),.ge (.t 72) (.t 68) true (kg (ι.f 165) [.t 70,.t 71]),kJ 73 68 72,kB 0 73] .ret)
def Af (ι:aJ):S:=
 kY [kC 0 (.bool false)] (kY [kc 12 (.cj (ι.t 26) 1 2 [.c (.int .i64 1),.c (.int .i64 2)]),kc 13 (kg (ι.f 143) [.t 12]),kd 1 (.new (ι.t 128) #[kZ]),kf (.stn 1 (.v 1) (.t 13))] (.seq (G8 ι) (kY [kM 24 5 2,kc 25 (kg (ι.f 373) [.t 24,.c (.int .i64 0)]),kF 23 25,kQ 26 23 0,kQ 27 23 1,kQ 28 23 2,kQ 29 23 3,kd 5 (.new (ι.t 372) #[kZ]),kF 4 26,kf (.stn 1 (.v 5) (.t 27)),kB 6 28,kB 7 29] (kY [kM 31 5 2,kM 32 1 5,kc 33 (kg (ι.f 437) [.t 31,.t 32]),kF 30 33,kQ 34 30 0,kQ 35 30 1,kB 8 34,kF 9 35] (.seq (MX ι) (G9 ι))))))
def Ag:List RV:=[.t 0]
theorem P5:JO [1,2]=bt 6:=by
 funext n
 by_cases h:n<11
 ·have:∀n:Fin 11,JO [1,2] n.val=bt 6 n.val:=by decide
  exact this ⟨n,h⟩
 ·have e1:bt 6 n=false:=Nat.testBit_lt_two_pow (Nat.lt_of_lt_of_le (show(6:UInt64).toNat<2^11 by decide) (Nat.pow_le_pow_right (by omega) (by omega)));rw[e1];unfold JO;have:¬((n:Int)∈([1,2]:List Int)):=fun hm=>by
   simp only[List.mem_cons,List.not_mem_nil,or_false]at hm;omega
  rw[decide_eq_false this,Bool.false_and]
theorem Ah (n:Nat):Zt (List.replicate n 6):=fun k u h=>by
 have h6:bt 6 u=true:=by
  rw[List.getD_eq_getElem?_getD,List.getElem?_replicate]at h
  by_cases hk:k<n
  ·rw[if_pos hk]at h;exact h
  ·rw[if_neg hk]at h;simp[bt]at h
 have hb:=Nat.ge_two_pow_of_testBit h6;have h4:u<3:=by
  apply Classical.byContradiction;intro hc;have:2^3<=2^u:=Nat.pow_le_pow_right (by omega) (by omega);have:(6:UInt64).toNat=6:=rfl;omega
 have h0:u≠0:=by rintro rfl;revert h6;decide
 omega
theorem Ha:∀(n:Nat) (x:gR),x∈Ae n->0<=x.1/\x.1<x.2/\x.2<(n:Int)
 |0,x,h=>by simp[Ae]at h
 |n+1,x,h=>by
  rw[Ae,List.mem_append]at h;rcases h with h|h
  ·have:=Ha n x h;omega
  ·simp only[IJ,List.mem_map,List.mem_range]at h;obtain⟨j,hj,rfl⟩:=h;omega
variable {n:Nat} {x:Value}
theorem P6 (hn:n<=5):(Ae n).length<=10:=by
 have:n=0\/n=1\/n=2\/n=3\/n=4\/n=5:=by omega
 rcases this with rfl|rfl|rfl|rfl|rfl|rfl<;>decide
theorem Tz {el:List (Nat->Bool)} (hn0:0<el.length) (hn:el.length<=5) (hu:∀k u,(el.getD k fun _=>false) u=true->1<=u/\u<=256):cD (bV (jD el.length) el):=by
 have:=P6 hn;refine⟨hn0,show el.length<=10 by omega,hu,show(Ae el.length).length<=20 by omega,show 0<=20 by omega,show 0<=20 by omega,fun x hx=>?_,fun x hx=>absurd hx List.not_mem_nil,fun x hx=>absurd hx List.not_mem_nil⟩;have h:=Ha _ x hx;have e:(bV (jD el.length) el).el.length=el.length:=rfl;unfold qW;omega
theorem Zy {el:List (Nat->Bool)} (hn0:0<el.length) (hn:el.length<=5) (hu:∀k u,(el.getD k fun _=>false) u=true->1<=u/\u<=256) {fx:List Int} (hf:jV el.length fx):xq (bV (jD el.length) el) fx:=
 Ab (Tz hn0 hn hu) hf hn
theorem Hc (n:Nat):jV n (List.replicate n 0):=⟨by simp,fun u hu=>by
 have:=List.eq_of_mem_replicate hu;omega⟩
def lM (n:Nat):List (Nat->Bool):=(List.replicate n (6:UInt64)).map bt
theorem Ai (n k u:Nat) (h:((lM n).getD k fun _=>false) u=true):1<=u/\u<=4:=by
 unfold lM at h;rw[fT]at h;exact Ah n k u h
theorem MY:dd (bV (jD 3) (lM 3)) [0,0,0]=none:=by
 unfold lM;rw[BV rfl (Ah 3)];decide+kernel
theorem MZ:dd (bV (jD 2) (lM 2)) [0,0]=some [1,2]:=by
 unfold lM;rw[BV rfl (Ah 2)];decide+kernel
theorem TA:fw (jD 2) 63 (fun _=>false)=0:=by
 have h1:BI 63 (fun _=>false) (jD 2).st 2=0:=by decide+kernel
 have h2:Dl (jT [])=0:=F7 (wZ (by simp));unfold fw;rw[if_neg (by decide),if_neg (by unfold wY;decide)]
 show iG (BI 63 (fun _=>false) (jD 2).st 2) (iG (iA 2 (jD 2).be) (iG (iA 2 (jD 2).di) (iG (iA 2 (jD 2).sa) (iG (rI 2 (jD 2).mo) (Dl (jT []))))))=0
 rw[h1,h2];decide
theorem Cc {H:Hp} {vs:List Value} (hx:aS H (.agg #[x]) (bt 6)) (hv:vs=List.replicate n x) (i:Nat) (hi:i<vs.length):aS H (.agg #[vs.getD i undef]) ((lM n).getD i fun _=>false):=by
 subst hv;rw[List.length_replicate]at hi;unfold lM;rw[List.getD_eq_getElem?_getD,List.getElem?_replicate,if_pos hi,fT,List.getD_eq_getElem?_getD,List.getElem?_replicate,if_pos hi];exact hx
def Aj (A:Hp) (x:Value) (i:Nat) (X:Hp) (v:Value):Prop:=match i with
 |15=>cC X v (jD 3)
 |19=>aG X v [x,x,x]
 |2=>∃b,v=.pointer (some ⟨b,0,none⟩)/\A.size<=b/\Bl X b xw
 |_=>False
theorem Aj.ag {A:Hp}:∀i X X' v,Aj A x i X v->af (fun _=>False) X X'->Aj A x i X' v:=fun i X X' v h hk=>by
 unfold Aj at*
 split at h
 ·exact cC.aj h hk
 ·exact aG.ag h hk (by simp)
 ·obtain⟨b,e,hb,B⟩:=h;exact⟨b,e,hb,hk.bl B (by simp)⟩
 ·exact h
set_option maxHeartbeats 4000000 in
theorem P7 {P:Program} {ι:aJ} (hd:jd P (ι.f 443)) (hp:dg P ι (ι.f 376)) {f:Fr} {A0:Hp} {b1:Nat} {Qb:Ex->Fr->Hp->Prop} (h1:f 1=.pointer (some ⟨b1,0,none⟩)) (hsl:ax x) (B1:Bl A0 b1 [x]) (hx:aS A0 (.agg #[x]) (bt 6))
  (hK:La (bV (jD 3) (lM 3)) [0,0,0] A0 2 3 f (Qb .n)):vc P (G8 ι) Qb f A0:=by
 unfold G8 kW kX ka kb kg kZ;have lt:=B1.lt;have hlt:(A0.size<=b1)=False:=eq_false (by omega);have l1:aI A0 (.pointer (some ⟨b1,0,none⟩)) 1=some #[x]:=B1.aI 1 rfl;refine bC (fun q=>A0.size<=q) ?_;have s0:qZ (Aj A0 x) A0 A0 []:=qZ.nil A0;rw[cI,cI,cI];refine⟨by simp-implicitDefEqProofs only[go_sem,zS,↓reduceIte,Za,Zb,Zc,reduceCtorEq,zU,zV,Zf,Zg,Zh,Zi,Zd,Ze,zF,h1,hlt,l1],by simp-implicitDefEqProofs only[go_sem,zS,↓reduceIte,Za,Zb,Zc,reduceCtorEq,zU,zV,Zf,Zg,Zh,Zi,Zd,Ze,zF,h1,hlt,l1],by simp-implicitDefEqProofs only[go_sem,zS,↓reduceIte,Za,Zb,Zc,reduceCtorEq,zU,zV,Zf,Zg,Zh,Zi,Zd,Ze,zF,h1,hlt,l1],?_⟩;have hv:∀e,(PM.ldn 1 (.v 1)).val (A.rd e f) A0=.agg #[x]:=fun e=>by simp-implicitDefEqProofs only[go_sem,zS,↓reduceIte,Za,Zb,Zc,reduceCtorEq,zU,zV,Zf,Zg,Zh,Zi,Zd,Ze,zF,h1,l1]
 simp only[PX.val,hv,oE,x9];have C1:∀X,af (fun _=>False) A0 X->an P (ι.f 443) #[.int .i64 3] X fun r X'=>Aj A0 x 15 X' r/\af (fun _=>False) X X':=fun X K=>(hd 3 X (by omega)).mono fun r X' ⟨_,h,K'⟩=>⟨h,K'⟩
 have C2:∀X Cd Ce,af (fun _=>False) A0 X->Aj A0 x 15 X Cd->Aj A0 x 19 X Ce->an P (ι.f 376) #[Cd,Ce,.slice none 0 0] X (P2 (bV (jD 3) (lM 3)) [0,0,0] X):=fun X Cd Ce K h15 h19=>by
  have h15:cC X Cd (jD 3):=h15;have h19:aG X Ce [x,x,x]:=h19;refine(hp (jD 3) (lM 3) [x,x,x] [] _ _ _ X X (af.refl _ _) h15 h19 rfl rfl (Cc (n:=3) (hx.aj K) rfl) (aG.nil _ _ _) (.inl rfl) (Tz (el:=lM 3) (by decide) (by decide) fun k u h=>by have:=Ai 3 k u h;omega) (Hc 3)).mono ?_;rintro r X' ⟨pv,rfl,h1,h2⟩;refine⟨pv,rfl,fun Y W KW hW=>h1 Y W KW fun q hq=>⟨(hW q hq).1,.inr (hW q hq).2⟩,h2⟩
 have N:∀X b,A0.size<=b->Bl X b (#[.slice none 0 0,.slice none 0 0,.slice none 0 0,.slice none 0 0,.slice none 0 0]:Array Value).toList->Aj A0 x 2 X (.pointer (some ⟨b,0,none⟩)):=fun X b h B=>⟨b,rfl,h,B⟩
 have D3:∀X b,Bl X b [x,x,x]->Aj A0 x 19 X (.slice (some ⟨b,0,none⟩) 3 3):=fun X b B=>by
  have:aG X (.slice (some ⟨b,0,none⟩) 3 3) [x,x,x]:=aG.bl B 0 3 3 (by omega) (by simp);exact this
 have TB:∀X l e v2 Cd Ce m,qZ (Aj A0 x) A0 X l->(2,v2)∈l->(15,Cd)∈l->(19,Ce)∈l->look e 15=Cd->look e 19=Ce->cK P (fun q=>A0.size<=q) m e (bN f 2 v2) X (Qb .n)->cK P (fun q=>A0.size<=q) (.wcons (.t 20) none (.call (ι.f 376) [.t 15,.t 19,.c (.slice none 0 0)]) (Zw 20 14 21 22 2 3) m) e (bN f 2 v2) X (Qb .n):=fun X l e v2 Cd Ce m S m2 m15 m19 Zz ZA hm=>by
  obtain⟨b,rfl,hb,B⟩:∃b,v2=.pointer (some ⟨b,0,none⟩)/\A0.size<=b/\Bl X b xw:=S.v _ m2;exact P3 (C2 X Cd Ce S.k (S.v _ m15) (S.v _ m19)) (by simp only[List.map_cons,List.map_nil,vV,rd_c,Zz,ZA]) hK hb S.k B (fun j h2 _=>by simp only[bN,h2,if_false]) (by simp only[bN,if_true]) (by decide) (by decide) (by decide) hm
 have TC:∀X l e Cd Ce m,qZ (Aj A0 x) A0 X l->(15,Cd)∈l->(19,Ce)∈l->look e 15=Cd->look e 19=Ce->cK P (fun q=>A0.size<=q) m e f X (Qb .n)->cK P (fun q=>A0.size<=q) (.wcons (.t 20) none (.call (ι.f 376) [.t 15,.t 19,.c (.slice none 0 0)]) (Zx ι 20 14 21 22 2 3) m) e f X (Qb .n):=fun X l e Cd Ce m S m15 m19 Zz ZA hm=>
  P4 (C2 X Cd Ce S.k (S.v _ m15) (S.v _ m19)) (by simp only[List.map_cons,List.map_nil,vV,rd_c,Zz,ZA]) hK S.k (fun j _ _=>rfl) (by decide) (by decide) (by decide) hm
 repeat' (first
  |exact trivial
  |refine TB _ _ _ _ _ _ _ (by assumption) (by simp) (by simp[aV]) (by simp[aV]) rfl rfl ?_
  |refine TC _ _ _ _ _ _ (by assumption) (by simp[aV]) (by simp[aV]) rfl rfl ?_
  |refine qZ.call Aj.ag (by assumption) C1 rfl (fun _ _ _=>?_) ?_
  |refine qZ.jA Aj.ag (by assumption) (L:=[x,x,x]) (by simp[vV,aV,Value.cells]) (by simp[vV,aV,Value.cells]) D3 (fun _ _ _=>?_) ?_
  |refine qZ.new Aj.ag (by assumption) N (fun _ _ _=>?_) ?_)
end Go.Mg
namespace Go.Mg
open Go Go.RowKit
structure ZB (P:Program) (ι:aJ):Prop where
 dif:jd P (ι.f 443)
 of_:tI P (ι.f 143)
 prb:dg P ι (ι.f 376)
 slv:dQ P ι (ι.f 373)
 BR:jt P ι (ι.f 437)
 sta:jZ P ι (ι.f 391)
 pln:qi P ι (ι.f 382)
 ZC:nP P (ι.f 165)
def qm (P:Program) (ι:aJ) (k:FuncId):Prop:=∀(H:Hp),br ι H->an P k #[] H fun r H'=>r=.bool true/\af (fun _=>False) H H'
theorem Lb {P:Program} {ι:aJ} {k:FuncId} (hk:aq P k (Af ι) Ag 0) (c:ZB P ι):qm P ι k:=by
 intro H hT;refine qI fun Q hQ=>?_;refine ah hk (args:=[]) (by simp) ?_;unfold Af Ag kB kF kC kM kQ kc kd kf kg kY kZ;simp-implicitDefEqProofs only[go_sem,zS,↓reduceIte,Za,Zb,Zc,reduceCtorEq,zU,zV,Zf,Zg,Zh,Zi,Zd,Ze,zF];refine aF fun H1 p1 e1 z1 B1 K1=>?_;have eB:Bl H1 p1 (iL [1,2]):=B1;simp-implicitDefEqProofs only[go_sem,zS,↓reduceIte,Za,Zb,Zc,reduceCtorEq,zU,zV,Zf,Zg,Zh,Zi,Zd,Ze,zF];refine(c.of_ [1,2] _ H1 (aG.bl eB 0 2 2 (by omega) (by simp[ak])) (by simp)).mono ?_;rintro r H2 ⟨hx,K2,-⟩;rw[P5]at hx;obtain⟨x,Wx,rfl,hV⟩:=hx;have hx:aS H2 (.agg #[x]) (bt 6):=⟨x,Wx,rfl,hV⟩
 have hsl:ax x:=hV.sl.ax;rw[ae];simp-implicitDefEqProofs only[go_sem,zS,↓reduceIte,Za,Zb,Zc,reduceCtorEq,zU,zV,Zf,Zg,Zh,Zi,Zd,Ze,zF];refine bB [x] (by simp-implicitDefEqProofs only[go_sem,zS,↓reduceIte,Za,Zb,Zc,reduceCtorEq,ae,zU,zV,Zf,Zg,Zh,Zi,Zd,Ze]) rfl rfl (by simp only[List.all_cons,List.all_nil,aM hsl];rfl) fun A1 b1 e3 z3 B3 K3=>?_;have SH:=(K1.trans K2).trans K3;simp-implicitDefEqProofs only[go_sem,zS,↓reduceIte,Za,Zb,Zc,reduceCtorEq,zU,zV,Zf,Zg,Zh,Zi,Zd,Ze,zF];have nV:Bl A1 b1 [x]:=B3;refine P7 c.dif c.prb (b1:=b1) (x:=x) (by simp-implicitDefEqProofs only[go_sem,zS,↓reduceIte,Za,Zb,Zc,reduceCtorEq,ae,zU,zV,Zf,Zg,Zh,Zi,Zd,Ze]) hsl nV (hx.aj K3) ?_;intro f A2 b2 w1 w2 w3 w4 w5 hf f2 f3 hb2 B4 PX K4;have f1:f 1=.pointer (some ⟨b1,0,none⟩):=by rw[hf 1 (by decide) (by decide)];simp-implicitDefEqProofs only[go_sem,zS,↓reduceIte,Za,Zb,Zc,reduceCtorEq,ae,zU,zV,Zf,Zg,Zh,Zi,Zd,Ze]
 have s4:=K4.size;have Mv:=K4.bl nV (by simp);have l2:aI A2 (.pointer (some ⟨b2,0,none⟩)) 5=some #[w1,w2,w3,w4,w5]:=B4.aI 5 rfl;have us3:∀k u,((lM 3).getD k fun _=>false) u=true->1<=u/\u<=256:=fun k u h=>by have:=Ai 3 k u h;omega
 have us2:∀k u,((lM 2).getD k fun _=>false) u=true->1<=u/\u<=256:=fun k u h=>by have:=Ai 2 k u h;omega
 have G3:cD (bV (jD 3) (lM 3)):=Tz (el:=lM 3) (by decide) (by decide) us3;have S3:xq (bV (jD 3) (lM 3)) [0,0,0]:=Zy (el:=lM 3) (by decide) (by decide) us3 (Hc 3);have G2:cD (bV (jD 2) (lM 2)):=Tz (el:=lM 2) (by decide) (by decide) us2;have S2:xq (bV (jD 2) (lM 2)) [0,0]:=Zy (el:=lM 2) (by decide) (by decide) us2 (Hc 2);obtain⟨w,hw,hw1,Oo⟩:=S3.w;have xS:((0:Int)==0)=true:=rfl;have e11:((1:Int)==1)=true:=rfl;simp-implicitDefEqProofs only[go_sem,zS,↓reduceIte,Za,Zb,Zc,reduceCtorEq,zU,zV,Zf,Zg,Zh,Zi,Zd,Ze,zF,f2,l2];refine(c.slv (bV (jD 3) (lM 3)) [0,0,0] w _ A2 (hT.ag (SH.trans K4)) PX G3 S3.u hw hw1 Oo).mono ?_;rintro r A3 ⟨sv,rv,My,rfl,K5,hs⟩;rw[MY]at hs;obtain⟨rfl,ZD⟩:=hs;obtain⟨L,σ,hR,hok⟩:=ZD.g;rw[ae];simp-implicitDefEqProofs only[go_sem,zS,↓reduceIte,Za,Zb,Zc,reduceCtorEq,zU,zV,Zf,Zg,Zh,Zi,Zd,Ze,zF,MY];refine ay fun A4 b5 e5 z5 B5 K6=>?_;have Em:Bl A4 b5 [.slice none 0 0]:=B5;have t5:=Em.bK (o:=0) (n:=1) (by simp);have a1:bQ #[rv]:=bE (by simp only[List.all_cons,List.all_nil,aM My];rfl);have K7:af (fun q=>q=b5) A4 (aA A4 ⟨b5,0,none⟩ [rv]):=(af.refl _ _).aA _ (.inl rfl);have B7:Bl (aA A4 ⟨b5,0,none⟩ [rv]) b5 [rv]:=Em.aA 0 [rv];have K67:af (fun _=>False) A3 (aA A4 ⟨b5,0,none⟩ [rv]):=K6.trans' K7 fun q hq e=>by omega
 simp-implicitDefEqProofs only[go_sem,zS,↓reduceIte,Za,Zb,Zc,reduceCtorEq,zU,zV,Zf,Zg,Zh,Zi,Zd,Ze,zF,t5];refine⟨a1,?_⟩;rw[ae];have xQ:=K5.trans K67;have Tg:=xQ.bl B4 (by simp);have l5:aI (aA A4 ⟨b5,0,none⟩ [rv]) (.pointer (some ⟨b5,0,none⟩)) 1=some #[rv]:=B7.aI 1 rfl;have l2:aI (aA A4 ⟨b5,0,none⟩ [rv]) (.pointer (some ⟨b2,0,none⟩)) 5=some #[w1,w2,w3,w4,w5]:=Tg.aI 5 rfl;have hRX:=hR.aj K67;have PX7:=PX.aj xQ;have KI:=(SH.trans K4).trans xQ;have Vk:=xQ.bl Mv (by simp);generalize aA A4 ⟨b5,0,none⟩ [rv]=A5 at*;simp-implicitDefEqProofs only[go_sem,zS,↓reduceIte,Za,Zb,Zc,reduceCtorEq,zU,zV,Zf,Zg,Zh,Zi,Zd,Ze,zF,f2,l5,l2];refine(c.BR _ _ L σ _ rv A5 (hT.ag KI) PX7 G3 S3.u hRX hok).mono ?_;rintro r A6 ⟨rfl,K8⟩;rw[ae];simp-implicitDefEqProofs only[go_sem,zS,↓reduceIte,Za,Zb,Zc,reduceCtorEq,zU,zV,Zf,Zg,Zh,Zi,Zd,Ze,zF];have IE:=KI.trans K8;have B38:=K8.bl Vk (by simp);have TD:=K8.bl B7 (by simp);have l1:aI A6 (.pointer (some ⟨b1,0,none⟩)) 1=some #[x]:=B38.aI 1 rfl;have hx6:=((hx.aj K3).aj K4).aj (xQ.trans K8);have ZE:=hRX.aj K8;obtain⟨nl,GQ,vu,_⟩:=ZE.nd;have hne:=hok.ne;have c5:cell A6 ⟨b5,0,none⟩=some rv:=by rw[TD.cell];rfl
 have fin:∀(g:Fr) (X:Hp) (rb:Nat),g 3=.int .i64 0->g 5=.pointer (some ⟨b5,0,none⟩)->g 6=.bool false->g 7=.int .i64 0->g 8=.int .u8 1->g 10=.pointer (some ⟨rb,0,none⟩)->g 11=.int .i64 0->af (fun _=>False) A6 X->lK X rb (jD 2) (lM 2) [0,0]->vc P (G9 ι) (kx [.t 0] Q) g X:=fun g X rb g3 g5 g6 g7 g8 g10 g11 KX hR=>by
  unfold G9 kA kB kF kJ kS kT kU kg kY;have c5:cell X ⟨b5,0,none⟩=some rv:=by rw[(KX.bl TD (by simp)).cell];rfl
  have E8:decide ((0:Int)<(nl.length:Int))=true:=by
   have:0<L.length:=List.length_pos_iff.2 hne;exact decide_eq_true (by omega)
  simp-implicitDefEqProofs only[go_sem,zS,↓reduceIte,Za,Zb,Zc,reduceCtorEq,zU,zV,Zf,Zg,Zh,Zi,Zd,Ze,zF,g3,g5,g6,g7,g8,g10,g11,c5,xS,e11,GQ.ax,GQ.len,E8];refine(c.pln.1 (jD 2) (lM 2) [0,0] rb X (hT.ag (IE.trans KX)) hR G2 S2).mono ?_;rintro r X1 ⟨KA,hp⟩;rw[MZ]at hp;have hp:aG X1 r (iL [1,2]):=hp;rw[ae];simp-implicitDefEqProofs only[go_sem,zS,↓reduceIte,Za,Zb,Zc,reduceCtorEq,zU,zV,Zf,Zg,Zh,Zi,Zd,Ze,zF];refine aF fun X2 p4 e4' z4' Dc KB=>?_;have ZF:Bl X2 p4 (iL [1,2]):=Dc;simp-implicitDefEqProofs only[go_sem,zS,↓reduceIte,Za,Zb,Zc,reduceCtorEq,zU,zV,Zf,Zg,Zh,Zi,Zd,Ze,zF];refine(c.ZC [1,2] [1,2] r _ X2 (hp.ag KB (by simp)) (aG.bl ZF 0 2 2 (by omega) (by simp[ak])) (by simp)).mono ?_;rintro r' X3 ⟨rfl,rfl⟩;have dq:decide (([1,2]:List Int)=[1,2])=true:=rfl;rw[ae];simp-implicitDefEqProofs only[go_sem,zS,↓reduceIte,Za,Zb,Zc,reduceCtorEq,zU,zV,Zf,Zg,Zh,Zi,Zd,Ze,zF,dq];rw[hQ];exact⟨rfl,(IE.trans KX).trans (KA.trans KB)⟩
 unfold MX kW kX ka kg;refine bC (fun _=>False) ?_;simp-implicitDefEqProofs only[go_sem,zS,↓reduceIte,Za,Zb,Zc,reduceCtorEq,zU,zV,Zf,Zg,Zh,Zi,Zd,Ze,zF,f1,l1,Option.isSome_none];have C1:∀X,af (fun _=>False) A6 X->an P (ι.f 443) #[.int .i64 2] X fun r X'=>cC X' r (jD 2)/\af (fun _=>False) X X':=fun X K=>(c.dif 2 X (by omega)).mono fun r X' ⟨_,h,K'⟩=>⟨h,K'⟩
 have C2:∀X v b,af (fun _=>False) A6 X->cC X v (jD 2)->Bl X b [x,x]->an P (ι.f 391) #[v,.slice (some ⟨b,0,none⟩) 2 2] X fun r X'=>af (fun _=>False) X X'/\∃rb,r=.tuple #[.pointer (some ⟨rb,0,none⟩),.int .i64 0]/\lK X' rb (jD 2) (lM 2) [0,0]:=fun X v b K hv B=>by
  refine(c.sta (jD 2) (lM 2) [x,x] v _ X (hT.ag (IE.trans K)) hv (aG.bl B 0 2 2 (by omega) (by simp)) rfl (by decide) (Cc (n:=2) (hx6.aj K) rfl) fun _ _ _=>⟨G2,S2,by decide⟩).mono ?_;rintro r X' ⟨K',hx⟩;refine⟨K',?_⟩;rcases hx with⟨h,_⟩|⟨_,h,_⟩|⟨_,_,⟨i,hi,u,hu,hu2⟩,_⟩|⟨_,_,_,h⟩
  ·exact absurd TA h
  ·exact absurd rfl h
  ·have:=us2 i u hu;omega
  ·have e:dd (bV (jD 2) (lM 2)) (List.replicate (lM 2).length 0)=some [1,2]:=MZ;rw[e]at h;rcases h with⟨h,_⟩|⟨_,h⟩
   ·cases h
   ·exact h
 have hpush:∀X T,af (fun _=>False) X (X.push (.cells #[x,x] T))/\Bl (X.push (.cells #[x,x] T)) X.size [x,x]:=fun X T=>⟨(af.refl _ _).push _,Bl.cW X #[x,x] T⟩
 refine⟨(C1 A6 (af.refl _ _)).mono ?_,(hpush A6 _).1,?_⟩
 ·rintro v X1 ⟨hv,K9⟩;obtain⟨KP,BP⟩:=hpush X1 (ι.t 128);rw[aK];refine⟨K9,?_⟩;simp-implicitDefEqProofs only[go_sem,zS,↓reduceIte,Za,Zb,Zc,reduceCtorEq,zU,zV,Zf,Zg,Zh,Zi,Zd,Ze,zF];generalize X1.push (.cells #[x,x] (ι.t 128))=X2 at KP BP⊢;refine⟨KP,(C2 X2 v _ (K9.trans KP) (hv.aj KP) BP).mono ?_⟩;rintro r X3 ⟨KQ,rb,rfl,hR⟩;rw[aK];refine⟨KQ,?_⟩;simp-implicitDefEqProofs only[go_sem,zS,↓reduceIte,Za,Zb,Zc,reduceCtorEq,zU,zV,Zf,Zg,Zh,Zi,Zd,Ze,zF];exact fin _ X3 rb (by simp-implicitDefEqProofs only[go_sem,zS,↓reduceIte,Za,Zb,Zc,reduceCtorEq,ae,zU,zV,Zf,Zg,Zh,Zi,Zd,Ze,f3]) (by simp-implicitDefEqProofs only[go_sem,zS,↓reduceIte,Za,Zb,Zc,reduceCtorEq,ae,zU,zV,Zf,Zg,Zh,Zi,Zd,Ze]) (by simp-implicitDefEqProofs only[go_sem,zS,↓reduceIte,Za,Zb,Zc,reduceCtorEq,ae,zU,zV,Zf,Zg,Zh,Zi,Zd,Ze]) (by simp-implicitDefEqProofs only[go_sem,zS,↓reduceIte,Za,Zb,Zc,reduceCtorEq,ae,zU,zV,Zf,Zg,Zh,Zi,Zd,Ze]) (by simp-implicitDefEqProofs only[go_sem,zS,↓reduceIte,Za,Zb,Zc,reduceCtorEq,ae,zU,zV,Zf,Zg,Zh,Zi,Zd,Ze]) (by simp-implicitDefEqProofs only[go_sem,zS,↓reduceIte,Za,Zb,Zc,reduceCtorEq,ae,zU,zV,Zf,Zg,Zh,Zi,Zd,Ze]) (by simp-implicitDefEqProofs only[go_sem,zS,↓reduceIte,Za,Zb,Zc,reduceCtorEq,ae,zU,zV,Zf,Zg,Zh,Zi,Zd,Ze]) ((K9.trans KP).trans KQ) hR
 ·obtain⟨KP,BP⟩:=hpush A6 (ι.t 128);generalize A6.push (.cells #[x,x] (ι.t 128))=X2 at KP BP⊢;refine(C1 X2 KP).mono ?_;rintro v X1 ⟨hv,K9⟩;rw[aK];refine⟨K9,?_⟩;simp-implicitDefEqProofs only[go_sem,zS,↓reduceIte,Za,Zb,Zc,reduceCtorEq,zU,zV,Zf,Zg,Zh,Zi,Zd,Ze,zF];refine(C2 X1 v _ (KP.trans K9) hv (K9.bl BP (by simp))).mono ?_;rintro r X3 ⟨KQ,rb,rfl,hR⟩;rw[aK];refine⟨KQ,?_⟩;simp-implicitDefEqProofs only[go_sem,zS,↓reduceIte,Za,Zb,Zc,reduceCtorEq,zU,zV,Zf,Zg,Zh,Zi,Zd,Ze,zF];exact fin _ X3 rb (by simp-implicitDefEqProofs only[go_sem,zS,↓reduceIte,Za,Zb,Zc,reduceCtorEq,ae,zU,zV,Zf,Zg,Zh,Zi,Zd,Ze,f3]) (by simp-implicitDefEqProofs only[go_sem,zS,↓reduceIte,Za,Zb,Zc,reduceCtorEq,ae,zU,zV,Zf,Zg,Zh,Zi,Zd,Ze]) (by simp-implicitDefEqProofs only[go_sem,zS,↓reduceIte,Za,Zb,Zc,reduceCtorEq,ae,zU,zV,Zf,Zg,Zh,Zi,Zd,Ze]) (by simp-implicitDefEqProofs only[go_sem,zS,↓reduceIte,Za,Zb,Zc,reduceCtorEq,ae,zU,zV,Zf,Zg,Zh,Zi,Zd,Ze]) (by simp-implicitDefEqProofs only[go_sem,zS,↓reduceIte,Za,Zb,Zc,reduceCtorEq,ae,zU,zV,Zf,Zg,Zh,Zi,Zd,Ze]) (by simp-implicitDefEqProofs only[go_sem,zS,↓reduceIte,Za,Zb,Zc,reduceCtorEq,ae,zU,zV,Zf,Zg,Zh,Zi,Zd,Ze]) (by simp-implicitDefEqProofs only[go_sem,zS,↓reduceIte,Za,Zb,Zc,reduceCtorEq,ae,zU,zV,Zf,Zg,Zh,Zi,Zd,Ze]) ((KP.trans K9).trans KQ) hR
end Go.Mg
