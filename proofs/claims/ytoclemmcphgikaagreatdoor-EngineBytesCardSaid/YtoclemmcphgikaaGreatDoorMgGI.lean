/- Lemmas of ours. No conditions. -/
import Derived.Test.YtoclemmcphgikaaGreatDoorMgGF
open Bool renaming false→ZS,true→ZT
open Go renaming Value→ZR
open Go.IntKind renaming i64→ZY
open Go.Value renaming agg→Z0,int→Z8,pointer→Z7,slice→Z6,tuple→ZZ
open Option renaming none→ZU,some→ZV
open List renaming replicate→ZM
open Nat renaming reduceEqDiff→Za,reduceAdd→Zb,reduceMul→Zc,reduceLeDiff→Zd,reduceLT→Ze
open Int renaming reduceBEq→Zf,reduceBNe→Zg,reduceLE→Zh,reduceLT→Zi
set_option maxRecDepth 100000
set_option linter.all false
namespace Go.Mg
open Go Go.RowKit
def IT (V:aH):S:=
 kY [kC 2 (kZ)] (.seq (kY [kA 3 0,kV 4 (.m (.eqn .sl ZS (.t 3)))] (.ite (.v 4) (kY [kC 2 (kZ)] .ret) .skip)) (kY [kc 5 (.aX (V.t 297) 2 0 []),kA 6 0,kc 7 (.app ZS (V.t 297) 2 24 #[.string ⟨#[]⟩,Z8 ZY 0] (.t 5) (.t 6)),kB 2 7] .ret))
def IU:List RV:=[.t 2]
def Cx (V:aH):S:=
 kY [kR 1 (V.t 296) 0,kd 2 (.new (V.t 296) #[kZ,kZ,kZ,kZ,kZ])] (.seq (.dr (kW 3 (.fa 0 (.v 1)) (kW 4 (.ld (.t 3)) (kW 6 (.fa 1 (.v 1)) (kW 7 (.ld (.t 6)) (kW 9 (.fa 2 (.v 1)) (kW 10 (.ld (.t 9)) (kW 12 (.fa 3 (.v 1)) (kW 13 (.ld (.t 12)) (kW 15 (.fa 4 (.v 1)) (kW 16 (.ld (.t 15)) (ka 5 (kg (V.f 389) [.t 4]) (ka 8 (kg (V.f 204) [.t 7]) (ka 11 (kg (V.f 204) [.t 10]) (ka 14 (kg (V.f 204) [.t 13]) (ka 17 (kg (V.f 375) [.t 16]) (kW 18 (.m (.bld #[kZ,kZ,kZ,kZ,kZ] [(0,(1,.t 5)),(1,(1,.t 8)),(2,(1,.t 11)),(3,(1,.t 14)),(4,(1,.t 17))])) (kb (.stn 5 (.v 2) (.t 18)) .done .wnil)) .wnil) .wnil) .wnil) .wnil) .wnil)))))))))))) .ret)
def Cy:List RV:=[.cn 2 5]
variable {P:Program} {V:aH} {k:FuncId} {F:cf} {vs:List ZR} {A:Hp} {f:Fr} {s b d a m:ZR}
def abT {α:Type} {enc:α->List ZR} (hl:∀x,(enc x).length=2) (h1:∀x,∀v∈enc x,v.oneCell'=ZT) (hk:ak P k (IT V) IU 1):dz enc P k:=by
 intro l v H hv hn;refine ah hk (args:=[_]) (by simp) ?_;unfold IT IU kA kB kC kV kc kY kZ;obtain⟨a,c,rfl,hc⟩:=hv.mk
 cases a with
 |none=>
  have h0:l=[]:=by
   rcases hv with⟨_,_,_,h⟩|⟨_,_,_,_,h,_⟩
   ·exact h
   ·cases h
  subst h0;simp only[go_sem,zS,↓reduceIte,Za,Zb,Zc,reduceCtorEq,ae];exact⟨cr.nil _,fun k h=>h.elim,af.refl _ _⟩
 |some p=>
  simp only[go_sem,zS,↓reduceIte,Za,Zb,Zc,reduceCtorEq];refine aG fun H1 b1 e1 z1 B1 K1=>?_;have s1:=K1.size;simp only[go_sem,zS,↓reduceIte,Za,Zb,Zc,reduceCtorEq];have ph:cr enc 2 H1 (Z6 (ZV ⟨b1,0,ZU⟩) 0 0) []:=cr.bl B1 rfl (by omega) (by omega) (by simp);refine rO (l:=([]:List α)) (m:=l) H.size hl h1 ph (fun q hq=>by have hq:q=b1:=hq;omega) (by omega) (hv.aj K1) rfl (by omega) (by simp;omega) fun v3 H3 O3 own3 K3=>?_;rw[List.nil_append]at O3;simp only[go_sem,zS,↓reduceIte,Za,Zb,Zc,reduceCtorEq,ae];exact⟨O3,own3,K1.gK K3 (Nat.le_refl _)⟩
def nQ (P:Program) (k:FuncId):Prop:=∀(F:cf) (v:ZR) (H:Hp),bZ H v F->F.st.length<=1000->F.be.length<=1000->F.di.length<=1000->F.sa.length<=1000->F.mo.length<=1000->an P k #[v] H fun r H'=>(∃s b d a m,r=Z0 #[s,b,d,a,m])/\bZ H' r F/\af (fun _=>False) H H'
def Si (hk:ak P k (Cx V) Cy 1) (hS:dz cB P (V.f 389)) (hP:dz pE P (V.f 204)) (hM:dz cq P (V.f 375)):nQ P k:=by
 intro F v H hv l1 l2 l3 l4 l5;obtain⟨s,b,d,a,m,ms,rfl,h1,h2,h3,h4,h5,h6⟩:=hv;have mb:=h6.len;refine ah hk (args:=[_]) (by simp) ?_;unfold Cx Cy kR kW ka kb kd kg kY kZ;simp-implicitDefEqProofs only[go_sem,↓reduceIte,Za,Zb,Zc,reduceCtorEq,Zf,Zg,Zh,Zi,Zd,Ze];refine ax fun H1 b1 e1 z1 B1 K1=>?_;have bL:Bl H1 b1 [s,b,d,a,m]:=B1;simp-implicitDefEqProofs only[go_sem,↓reduceIte,Za,Zb,Zc,reduceCtorEq,Zf,Zg,Zh,Zi,Zd,Ze];refine ax fun H2 b2 e2 z2 B2 K2=>?_;have fG:Bl H2 b2 [Z6 ZU 0 0,Z6 ZU 0 0,Z6 ZU 0 0,Z6 ZU 0 0,Z6 ZU 0 0]:=B2;have cS:=K1.trans K2;have gI:=K2.bl bL id;have k0:cell H2 ⟨b1,0,ZU⟩=ZV s:=by rw[gI.cell];rfl
 have k1:cell H2 ⟨b1,1,ZU⟩=ZV b:=by rw[gI.cell];rfl
 have k2:cell H2 ⟨b1,2,ZU⟩=ZV d:=by rw[gI.cell];rfl
 have k3:cell H2 ⟨b1,3,ZU⟩=ZV a:=by rw[gI.cell];rfl
 have k4:cell H2 ⟨b1,4,ZU⟩=ZV m:=by rw[gI.cell];rfl
 have hne:(b1=b2)=False:=eq_false (by have:=bL.lt;omega);have s1:=K1.size;have amy:=fG.lt;simp-implicitDefEqProofs only[go_sem,↓reduceIte,Za,Zb,Zc,reduceCtorEq,Zf,Zg,Zh,Zi,Zd,Ze];refine aZ (fun q=>q=b2) ?_;simp-implicitDefEqProofs only[go_sem,↓reduceIte,Za,Zb,Zc,reduceCtorEq,Zf,Zg,Zh,Zi,Zd,Ze,k0,k1,k2,k3,k4,hne];refine(hS F.st s H2 (h1.aj cS) (by omega)).mono ?_;rintro r1 X1 ⟨O1,o1,G1⟩;rw[aJ];refine⟨G1.any,?_⟩;simp-implicitDefEqProofs only[go_sem,↓reduceIte,Za,Zb,Zc,reduceCtorEq,Zf,Zg,Zh,Zi,Zd,Ze];have LK:=cS.trans G1;refine(hP F.be b X1 (h2.aj LK) (by omega)).mono ?_;rintro r2 X2 ⟨O2,o2,G2⟩;rw[aJ];refine⟨G2.any,?_⟩;simp-implicitDefEqProofs only[go_sem,↓reduceIte,Za,Zb,Zc,reduceCtorEq,Zf,Zg,Zh,Zi,Zd,Ze];have KX2:=LK.trans G2;refine(hP F.di d X2 (h3.aj KX2) (by omega)).mono ?_;rintro r3 X3 ⟨O3,o3,G3⟩;rw[aJ];refine⟨G3.any,?_⟩;simp-implicitDefEqProofs only[go_sem,↓reduceIte,Za,Zb,Zc,reduceCtorEq,Zf,Zg,Zh,Zi,Zd,Ze];have Rq:=KX2.trans G3;refine(hP F.sa a X3 (h4.aj Rq) (by omega)).mono ?_;rintro r4 X4 ⟨O4,o4,G4⟩;rw[aJ];refine⟨G4.any,?_⟩;simp-implicitDefEqProofs only[go_sem,↓reduceIte,Za,Zb,Zc,reduceCtorEq,Zf,Zg,Zh,Zi,Zd,Ze];have KX4:=Rq.trans G4;refine(hM ms m X4 (h5.aj KX4) (by omega)).mono ?_;rintro r5 X5 ⟨O5,o5,G5⟩;rw[aJ];refine⟨G5.any,?_⟩;have KX5:=KX4.trans G5;have z1:=G1.size;have z2:=G2.size;have z3:=G3.size;have z4:=G4.size;have p1:=(((O1.sl.aj G2).aj G3).aj G4).aj G5;have p2:=((O2.sl.aj G3).aj G4).aj G5;have p3:=(O3.sl.aj G4).aj G5;have p4:=O4.sl.aj G5;have p5:=O5.sl;have B25:=((((G1.trans G2).trans G3).trans G4).trans G5).bl fG (by simp);have t:=B25.bG (o:=0) (n:=5) (by simp);have w1:∀q,aV r1 q->¬q=b2:=fun q hq e=>by have:=o1 q (O1.aV hq);omega
 have w2:∀q,aV r2 q->¬q=b2:=fun q hq e=>by have:=o2 q (O2.aV hq);omega
 have w3:∀q,aV r3 q->¬q=b2:=fun q hq e=>by have:=o3 q (O3.aV hq);omega
 have w4:∀q,aV r4 q->¬q=b2:=fun q hq e=>by have:=o4 q (O4.aV hq);omega
 have w5:∀q,aV r5 q->¬q=b2:=fun q hq e=>by have:=o5 q (O5.aV hq);omega
 obtain⟨a1,n1,c1,rfl⟩:=O1.shape;obtain⟨a2,n2,c2,rfl⟩:=O2.shape;obtain⟨a3,n3,c3,rfl⟩:=O3.shape;obtain⟨a4,n4,c4,rfl⟩:=O4.shape;obtain⟨a5,n5,c5,rfl⟩:=O5.shape;have ha:bM #[Value.slice a1 n1 c1,.slice a2 n2 c2,.slice a3 n3 c3,.slice a4 n4 c4,.slice a5 n5 c5]:=aU rfl;have K:af (fun q=>q=b2) X5 (aB X5 ⟨b2,0,ZU⟩ [.slice a1 n1 c1,.slice a2 n2 c2,.slice a3 n3 c3,.slice a4 n4 c4,.slice a5 n5 c5]):=(af.refl _ _).aB _ (.inl rfl);have B':Bl (aB X5 ⟨b2,0,ZU⟩ [.slice a1 n1 c1,.slice a2 n2 c2,.slice a3 n3 c3,.slice a4 n4 c4,.slice a5 n5 c5]) b2 [.slice a1 n1 c1,.slice a2 n2 c2,.slice a3 n3 c3,.slice a4 n4 c4,.slice a5 n5 c5]:=B25.aB 0 [.slice a1 n1 c1,.slice a2 n2 c2,.slice a3 n3 c3,.slice a4 n4 c4,.slice a5 n5 c5];have KF:af (fun _=>False) H (aB X5 ⟨b2,0,ZU⟩ [.slice a1 n1 c1,.slice a2 n2 c2,.slice a3 n3 c3,.slice a4 n4 c4,.slice a5 n5 c5]):=KX5.trans' K fun q hq e=>by omega
 have fin:bZ (aB X5 ⟨b2,0,ZU⟩ [.slice a1 n1 c1,.slice a2 n2 c2,.slice a3 n3 c3,.slice a4 n4 c4,.slice a5 n5 c5]) (Z0 #[.slice a1 n1 c1,.slice a2 n2 c2,.slice a3 n3 c3,.slice a4 n4 c4,.slice a5 n5 c5]) F:=
  ⟨_,_,_,_,_,ms,rfl,p1.ai K w1,p2.ai K w2,p3.ai K w3,p4.ai K w4,p5.ai K w5,h6.aj KF⟩
 have l2:aL (aB X5 ⟨b2,0,ZU⟩ [.slice a1 n1 c1,.slice a2 n2 c2,.slice a3 n3 c3,.slice a4 n4 c4,.slice a5 n5 c5]) (Z7 (ZV ⟨b2,0,ZU⟩)) 5=ZV #[.slice a1 n1 c1,.slice a2 n2 c2,.slice a3 n3 c3,.slice a4 n4 c4,.slice a5 n5 c5]:=B'.aL 5 rfl;have hw:jx (jx (jx (jx (jx #[Value.slice ZU 0 0,Z6 ZU 0 0,Z6 ZU 0 0,Z6 ZU 0 0,Z6 ZU 0 0] 0 [.slice a1 n1 c1]) 1 [.slice a2 n2 c2]) 2 [.slice a3 n3 c3]) 3 [.slice a4 n4 c4]) 4 [.slice a5 n5 c5]=#[.slice a1 n1 c1,.slice a2 n2 c2,.slice a3 n3 c3,.slice a4 n4 c4,.slice a5 n5 c5]:=rfl;simp-implicitDefEqProofs only[go_sem,↓reduceIte,Za,Zb,Zc,reduceCtorEq,Zf,Zg,Zh,Zi,Zd,Ze,t,hw];refine⟨ha,K,?_⟩;simp-implicitDefEqProofs only[go_sem,↓reduceIte,Za,Zb,Zc,reduceCtorEq,Zf,Zg,Zh,Zi,Zd,Ze,dQ,dR,l2];exact⟨⟨_,_,_,_,_,rfl⟩,fin,KF⟩
def Ft (V:aH):T:=
 (kW 33 (.m (.bld #[kZ,kZ,kZ,kZ,kZ,kZ,kZ] [(0,(5,.t 26)),(5,(1,.t 28)),(6,(1,.t 32))])) (ka 34 (.box (V.t 387) (.t 33)) (kX 8 (.mv (.t 34)) .done) .wnil))
def Sj (V:aH):S:=
 (.dr (kW 25 (.m (.ldn 5 (.v 2))) (kW 27 (.mv (.v 1)) (kW 29 (.fa 0 (.v 2)) (kW 30 (.ld (.t 29)) (kW 31 (.m (.lenl (.t 30))) (ka 26 (kg (V.f 390) [.t 25]) (ka 28 (kg (V.f 374) [.t 27]) (ka 32 (.rJ (V.t 26) 1 8 #[Z8 ZY 0] (.t 31) (.t 31)) (Ft V) .wnil) (ka 32 (.rJ (V.t 26) 1 8 #[Z8 ZY 0] (.t 31) (.t 31)) (ka 28 (kg (V.f 374) [.t 27]) (Ft V) .wnil) .wnil)) (ka 32 (.rJ (V.t 26) 1 8 #[Z8 ZY 0] (.t 31) (.t 31)) (ka 26 (kg (V.f 390) [.t 25]) (ka 28 (kg (V.f 374) [.t 27]) (Ft V) .wnil) .wnil) .wnil))))))))
def xe (V:aH):S:=
 kY [kR 2 (V.t 296) 0,kC 4 (Z7 .none),kC 5 (Z8 ZY 0)] (.seq (kY [kM 11 5 2,kU 12 (.m (.bld #[kZ] [])),kc 13 (kg (V.f 307) [.t 11,.c (Z8 ZY 63),.t 12]),kB 6 13] (kY [kA 14 6,kV 15 (.cm .neq ZY (.t 14) (.c (Z8 ZY 0)))] (.ite (.v 15) (kY [kA 16 6,kC 4 (Z7 .none),kB 5 16] .ret) .skip))) (.seq (kY [kA 17 1,kG 18 0 2,kD 19 18,kL 20 19,kc 21 (kg (V.f 378) [.t 17,.t 20]),kB 7 21] (kY [kA 22 7,kV 23 (.cm .neq ZY (.t 22) (.c (Z8 ZY 0)))] (.ite (.v 23) (kY [kA 24 7,kC 4 (Z7 .none),kB 5 24] .ret) .skip))) (.seq (Sj V) (.seq (kY [kA 36 8,kA 37 8,kU 38 (.nil (.t 37)),kU 39 (.fa 6 (.t 38)),kD 40 39,kc 41 (kg (V.f 377) [.t 36,.t 40]),kF 35 41,kQ 42 35 0,kQ 43 35 1,kF 9 42,kB 10 43] (kY [kA 44 10,kV 45 (.not (.t 44))] (.ite (.v 45) (kY [kC 4 (Z7 .none),kC 5 (Z8 ZY 12)] .ret) .skip))) (kY [kA 46 8,kB 4 46,kC 5 (Z8 ZY 0)] .ret)))))
def xf:List RV:=[.t 4,.t 5]
def StK (F:cf) (el:List (Nat->Bool)) (A:Hp) (f:Fr) (Q:Fr->Hp->Prop):Prop:=∀X rb,cH X rb F el (ZM el.length 0)->af (fun _=>False) A X->Q (bR f 8 (Z7 (ZV ⟨rb,0,ZU⟩))) X
def IV {el:List (Nat->Bool)} {X:Hp} {e:Env} {Q:Fr->Hp->Prop} {w z:ZR} (hK:StK F el A f Q) (KA:af (fun _=>False) A X)
  (e1:look e 26=Z0 #[s,b,d,a,m]) (e2:look e 28=w) (e3:look e 32=z) (hF:bZ X (Z0 #[s,b,d,a,m]) F) (hw:aP X w vs) (hz:aP X z (iL (ZM el.length 0))) (hl:vs.length=el.length) (hst:F.st.length=el.length) (hes:∀i<vs.length,aR X (Z0 #[vs.getD i undef]) (el.getD i fun _=>ZS)):dJ P (fun _=>False) (Ft V) e f X Q:=by
 obtain⟨wa,wc,rfl,-⟩:=hw.mk;obtain⟨za,zc,rfl,-⟩:=hz.mk;unfold Ft kW kX ka kZ;have Kp:∀(T:TypeId) (y:Array ZR),af (fun _=>False) X (X.push (.cells y T)):=fun T y=>(af.refl _ _).push _;simp-implicitDefEqProofs only[go_sem,↓reduceIte,Za,Zb,Zc,reduceCtorEq,Zf,Zg,Zh,Zi,Zd,Ze,e1,e2,e3];refine⟨(af.refl _ _).push _,hK _ X.size ?_ (KA.trans (Kp _ _))⟩;exact⟨s,b,d,a,m,_,_,vs,Bl.dh _ _ _,hF.aj (Kp _ _),hw.ai (Kp _ _) (by simp),hl,hst,fun i hi=>(hes i hi).aj (Kp _ _),hz.ai (Kp _ _) (by simp)⟩
def af8 (hC:nQ P (V.f 390)) (hB:jT P (V.f 374)) {el:List (Nat->Bool)} {b2:Nat} {ev:ZR} {Qb:Ex->Fr->Hp->Prop}
  (f1:f 1=ev) (f2:f 2=Z7 (ZV ⟨b2,0,ZU⟩)) (B2:Bl A b2 [s,b,d,a,m]) (hF:bZ A (Z0 #[s,b,d,a,m]) F) (hev:aP A ev vs) (hl:vs.length=el.length) (hst:F.st.length=el.length) (hn:el.length<=1000) (hes:∀i<vs.length,aR A (Z0 #[vs.getD i undef]) (el.getD i fun _=>ZS)) (hvs:∀x∈vs,aq x)
  (l2:F.be.length<=1000) (l3:F.di.length<=1000) (l4:F.sa.length<=1000) (l5:F.mo.length<=1000) (hK:StK F el A f (Qb .n)):vc P (Sj V) Qb f A:=by
 unfold Sj kW ka kg;have c0:cell A ⟨b2,0,ZU⟩=ZV s:=by rw[B2.cell];rfl
 have ll:aL A (Z7 (ZV ⟨b2,0,ZU⟩)) 5=ZV #[s,b,d,a,m]:=B2.aL 5 rfl;have lS:aq s/\aW s=el.length:=by
  obtain⟨s',b',d',a',m',ms,e,h1,_⟩:=hF
  cases e
  exact⟨h1.aq,by rw[h1.len,hst]⟩
 have cp:∀X,af (fun _=>False) A X->an P (V.f 390) #[Z0 #[s,b,d,a,m]] X fun r X'=>(∃s b d a m,r=Z0 #[s,b,d,a,m])/\bZ X' r F/\af (fun _=>False) X X':=fun X K=>hC F _ X (hF.aj K) (by omega) l2 l3 l4 l5;have cb:∀X,af (fun _=>False) A X->an P (V.f 374) #[ev] X fun r X'=>aP X' r vs/\af (fun _=>False) X X':=fun X K=>(hB vs ev X (hev.ai K (by simp)) hvs (by omega)).mono fun r X' ⟨O,o,K'⟩=>⟨O.sl,K'⟩
 have mk:∀(X:Hp) (T:TypeId),aP (X.push (.cells (rep #[Z8 ZY 0] el.length) T)) (Z6 (ZV ⟨X.size,0,ZU⟩) el.length el.length) (iL (ZM el.length 0)):=fun X T=>by
  have B:=Bl.dh X (rep #[Z8 ZY 0] el.length) T;rw[dx,rN]at B;exact(br.new (n:=el.length) (c:=el.length) B (by simp[aA]) rfl).sl
 have Kp:∀(X:Hp) (T:TypeId) (y:Array ZR),af (fun _=>False) X (X.push (.cells y T)):=fun X T y=>(af.refl _ _).push _;refine aZ (fun _=>False) ?_;simp only[go_sem,Za,Zb,f1,f2,c0,ll,lS.1,lS.2];have bnd:(0:Int)<=(el.length:Int)/\8*(el.length:Int)<=281474976710656/\(el.length:Int)<=(maxLen:Int):=⟨by omega,by omega,by unfold maxLen;omega⟩
 have ah5:(0:Int)<=(el.length:Int):=bnd.1;have ah6:8*(el.length:Int)<=281474976710656:=bnd.2.1;have ah7:(el.length:Int)<=(maxLen:Int):=bnd.2.2;refine⟨(cp A (af.refl _ _)).mono ?_,bnd,Kp _ _ _,(cp _ (Kp _ _ _)).mono ?_⟩
 ·rintro r X1 ⟨⟨s',b',d',a',m',rfl⟩,hF1,K1⟩;rw[aJ];refine⟨K1,?_⟩;simp only[go_sem,Za,Zb,ah5,ah6,ah7];refine⟨(cb X1 K1).mono ?_,Kp _ _ _,(cb _ (K1.trans (Kp _ _ _))).mono ?_⟩
  ·rintro w X2 ⟨hw,K2⟩;rw[aJ];refine⟨K2,?_⟩;simp only[go_sem,Za,Zb,ah5,ah6,ah7];refine⟨Kp _ _ _,?_⟩;have K:=(K1.trans K2).trans (Kp X2 (V.t 26) (rep #[Z8 ZY 0] el.length));exact IV hK K rfl rfl rfl (hF1.aj (K2.trans (Kp _ _ _))) (hw.ai (Kp _ _ _) (by simp)) (mk _ _) hl hst fun i hi=>(hes i hi).aj K
  ·rintro w X2 ⟨hw,K2⟩;rw[aJ];refine⟨K2,?_⟩;have K:=(K1.trans (Kp X1 (V.t 26) (rep #[Z8 ZY 0] el.length))).trans K2;simp only[go_sem,Za,Zb];exact IV hK K rfl rfl rfl (hF1.aj ((Kp _ _ _).trans K2)) hw ((mk _ _).ai K2 (by simp)) hl hst fun i hi=>(hes i hi).aj K
 ·rintro r X1 ⟨⟨s',b',d',a',m',rfl⟩,hF1,K1⟩;rw[aJ];refine⟨K1,?_⟩;simp only[go_sem,Za,Zb];refine(cb X1 ((Kp _ _ _).trans K1)).mono ?_;rintro w X2 ⟨hw,K2⟩;rw[aJ];refine⟨K2,?_⟩;have K:=((Kp A (V.t 26) (rep #[Z8 ZY 0] el.length)).trans K1).trans K2;simp only[go_sem,Za,Zb];exact IV hK K rfl rfl rfl (hF1.aj K2) hw ((mk _ _).ai (K1.trans K2) (by simp)) hl hst fun i hi=>(hes i hi).aj K
def lC (P:Program) (V:aH) (k:FuncId):Prop:=∀(F:cf) (el:List (Nat->Bool)) (vs:List ZR) (v ev:ZR) (H:Hp),bh V H->bZ H v F->aP H ev vs->vs.length=el.length->el.length<=1000->(∀i<vs.length,aR H (Z0 #[vs.getD i undef]) (el.getD i fun _=>ZS))→
  (fF F 63 (fun _=>ZS)=0->el.length=F.st.length->(∀i,i<el.length->¬qG (el.getD i fun _=>ZS))->eT (bJ F el)/\uB (bJ F el) (ZM el.length 0)/\F.be.length<=1000)→
  an P k #[v,ev] H fun r H'=>af (fun _=>False) H H'∧
    ((fF F 63 (fun _=>ZS)≠0/\r=ZZ #[Z7 ZU,Z8 ZY (fF F 63 (fun _=>ZS))])∨
     (fF F 63 (fun _=>ZS)=0/\el.length≠F.st.length/\r=ZZ #[Z7 ZU,Z8 ZY 1])∨
     (fF F 63 (fun _=>ZS)=0/\el.length=F.st.length/\(∃i,i<el.length/\qG (el.getD i fun _=>ZS))/\r=ZZ #[Z7 ZU,Z8 ZY 2])∨
     (fF F 63 (fun _=>ZS)=0/\el.length=F.st.length/\(∀i,i<el.length->¬qG (el.getD i fun _=>ZS))∧
       ((et (bJ F el) (ZM el.length 0)=ZU/\r=ZZ #[Z7 ZU,Z8 ZY 12])∨
        ((et (bJ F el) (ZM el.length 0)).isSome=ZT/\∃rb,r=ZZ #[Z7 (ZV ⟨rb,0,ZU⟩),Z8 ZY 0]/\cH H' rb F el (ZM el.length 0)))))
structure alh (P:Program) (V:aH):Prop where
 chk:qy P V (V.f 307)
 usr:qH P (V.f 378)
 cpy:nQ P (V.f 390)
 cln:jT P (V.f 374)
 pln:iq P V (V.f 377)
def N9 (hk:ak P k (xe V) xf 2) (c:alh P V):lC P V k:=by
  intro F el vs v ev H hT hF hev hl DT hes hgood;have hF0:=hF;obtain⟨s,b,d,a,m,ms,rfl,h1,h2,h3,h4,h5,h6⟩:=hF;have hvs:∀x∈vs,aq x:=fun x hx=>by
    obtain⟨i,hi,rfl⟩:=List.getElem_of_mem hx;obtain⟨u,W,e,hV⟩:=hes i hi;rw[List.getD_eq_getElem?_getD,List.getElem?_eq_getElem hi,Option.getD_some]at e
    cases e
    exact hV.sl.aq
  obtain⟨Q,hQ⟩:∃Q:ZR->Hp->Prop,Q=fun r H'=>af (fun _=>False) H H'∧
    ((fF F 63 (fun _=>ZS)≠0/\r=ZZ #[Z7 ZU,Z8 ZY (fF F 63 (fun _=>ZS))])∨
     (fF F 63 (fun _=>ZS)=0/\el.length≠F.st.length/\r=ZZ #[Z7 ZU,Z8 ZY 1])∨
     (fF F 63 (fun _=>ZS)=0/\el.length=F.st.length/\(∃i,i<el.length/\qG (el.getD i fun _=>ZS))/\r=ZZ #[Z7 ZU,Z8 ZY 2])∨
     (fF F 63 (fun _=>ZS)=0/\el.length=F.st.length/\(∀i,i<el.length->¬qG (el.getD i fun _=>ZS))∧
       ((et (bJ F el) (ZM el.length 0)=ZU/\r=ZZ #[Z7 ZU,Z8 ZY 12])∨
        ((et (bJ F el) (ZM el.length 0)).isSome=ZT/\∃rb,r=ZZ #[Z7 (ZV ⟨rb,0,ZU⟩),Z8 ZY 0]/\cH H' rb F el (ZM el.length 0))))):=⟨_,rfl⟩
  rw[<-hQ];refine ah hk (args:=[_,_]) (by simp) ?_;unfold xe xf kA kB kF kC kD kG kL kM kQ kR kU kV kc kg kY kZ;simp only[go_sem,Za,Zb];refine ax fun H1 b2 e1 z1 B1 K1=>?_;have bL:Bl H1 b2 [s,b,d,a,m]:=B1;have l5:aL H1 (Z7 (ZV ⟨b2,0,ZU⟩)) 5=ZV #[s,b,d,a,m]:=bL.aL 5 rfl;simp only[go_sem,Za,Zb,l5];refine(c.chk F _ _ 63 (fun _=>ZS) H1 (hT.ai K1) (hF0.aj K1) (aR.empty _ _ _)).mono ?_;rintro r H2 ⟨rfl,K2⟩;have df:=K1.trans K2;rw[ae]
  by_cases x1:fF F 63 (fun _=>ZS)=0
  case neg=>
    have q1:(fF F 63 (fun _=>ZS)!=0)=ZT:=bne_iff_ne.2 x1;simp only[go_sem,Za,Zb,q1];rw[hQ];exact⟨df,.inl ⟨x1,rfl⟩⟩
  have q1:(fF F 63 (fun _=>ZS)!=0)=ZS:=by rw[x1];rfl
  have B2:=K2.bl bL id;have c0:cell H2 ⟨b2,0,ZU⟩=ZV s:=by rw[B2.cell];rfl
  have ls:aW s=F.st.length:=h1.len;simp only[go_sem,Za,Zb,q1,c0,h1.aq,ls];refine(c.usr el vs ev (F.st.length:Int) H2 (hev.ai df (by simp)) hl DT fun i hi=>(hes i hi).aj df).mono ?_;rintro r H3 ⟨e,rfl,K3,hcase⟩;have mD:=df.trans K3;rw[ae];rcases hcase with⟨hne,rfl⟩|⟨heq,⟨rfl,rZ⟩|⟨rfl,hok⟩⟩
  · have q2:((1:Int)!=0)=ZT:=rfl;simp only[go_sem,Za,Zb,q2];rw[hQ];exact⟨mD,.inr (.inl ⟨x1,by omega,rfl⟩)⟩
  · have q2:((2:Int)!=0)=ZT:=rfl;simp only[go_sem,Za,Zb,q2];rw[hQ];exact⟨mD,.inr (.inr (.inl ⟨x1,by omega,rZ,rfl⟩))⟩
  have abU:el.length=F.st.length:=by omega
  obtain⟨hG,hB,hbe⟩:=hgood x1 abU hok;have q2:((0:Int)!=0)=ZS:=rfl;have g1:F.di.length<=20:=hG.dl;have g2:F.sa.length<=20:=hG.sl;have g3:F.mo.length<=20:=hG.ml;simp only[go_sem,Za,Zb,q2];refine af8 c.cpy c.cln (F:=F) (el:=el) (vs:=vs) (b2:=b2) (ev:=ev) (by rfl) (by rfl) (K3.bl B2 id) (hF0.aj mD) (hev.ai mD (by simp)) hl abU.symm DT (fun i hi=>(hes i hi).aj mD) hvs hbe (by omega) (by omega) (by omega) fun X rb hR KX=>?_;obtain⟨sv,c6,hsv⟩:=hR.yZ;have lP:=mD.trans KX;simp only[go_sem,Za,Zb,c6];refine(c.pln F el _ _ rb sv X (hT.ai lP) hR hsv hG hB).mono ?_;rintro r X1 ⟨y,rfl,K4,-⟩;rw[ae]
  cases hso:(et (bJ F el) (ZM el.length 0)).isSome with
  |false=>
    simp only[go_sem,Za,Zb,Bool.not_false];rw[hQ];exact⟨lP.trans K4,.inr (.inr (.inr ⟨x1,abU,hok,.inl ⟨Option.isNone_iff_eq_none.1 (by rw[<-Option.not_isSome,hso];rfl),rfl⟩⟩))⟩
  |true=>
    simp only[go_sem,Za,Zb,Bool.not_true];rw[hQ];exact⟨lP.trans K4,.inr (.inr (.inr ⟨x1,abU,hok,.inr ⟨hso,rb,rfl,hR.aj K4⟩⟩))⟩
end Go.Mg
