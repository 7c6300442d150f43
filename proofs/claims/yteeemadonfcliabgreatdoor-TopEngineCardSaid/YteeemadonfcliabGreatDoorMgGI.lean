/- Lemmas of ours. No conditions. -/
import Derived.Test.YteeemadonfcliabGreatDoorMgGF
open Nat renaming reduceEqDiff→Za,reduceAdd→Zb,reduceMul→Zc,reduceLeDiff→Zd,reduceLT→Ze
open Int renaming reduceBEq→Zf,reduceBNe→Zg,reduceLE→Zh,reduceLT→Zi
set_option linter.all false
set_option maxRecDepth 100000
namespace Go.Mg
open Go Go.RowKit
def DA (ι:aC):S:=
 kY [kC 2 (kZ)] (.seq (kY [kA 3 0,kV 4 (.m (.eqn .sl false (.t 3)))] (.ite (.v 4) (kY [kC 2 (kZ)] .ret) .skip)) (kY [kc 5 (.bF (ι.t 297) 2 0 []),kA 6 0,kc 7 (.app false (ι.t 297) 2 24 #[.string ⟨#[]⟩,.int .i64 0] (.t 5) (.t 6)),kB 2 7] .ret))
def DB:List RV:=[.t 2]
def xJ (ι:aC):S:=
 kY [kR 1 (ι.t 296) 0,kd 2 (.new (ι.t 296) #[kZ,kZ,kZ,kZ,kZ])] (.seq (.dr (kW 3 (.fa 0 (.v 1)) (kW 4 (.ld (.t 3)) (kW 6 (.fa 1 (.v 1)) (kW 7 (.ld (.t 6)) (kW 9 (.fa 2 (.v 1)) (kW 10 (.ld (.t 9)) (kW 12 (.fa 3 (.v 1)) (kW 13 (.ld (.t 12)) (kW 15 (.fa 4 (.v 1)) (kW 16 (.ld (.t 15)) (ka 5 (kg (ι.f 389) [.t 4]) (ka 8 (kg (ι.f 204) [.t 7]) (ka 11 (kg (ι.f 204) [.t 10]) (ka 14 (kg (ι.f 204) [.t 13]) (ka 17 (kg (ι.f 375) [.t 16]) (kW 18 (.m (.gz #[kZ,kZ,kZ,kZ,kZ] [(0,(1,.t 5)),(1,(1,.t 8)),(2,(1,.t 11)),(3,(1,.t 14)),(4,(1,.t 17))])) (kb (.stn 5 (.v 2) (.t 18)) .done .wnil)) .wnil) .wnil) .wnil) .wnil) .wnil)))))))))))) .ret)
def xK:List RV:=[.cn 2 5]
variable {P:Program} {ι:aC} {k:FuncId}
theorem Pu {α:Type} {enc:α->List Value} (hl:∀x,(enc x).length=2) (h1:∀x,∀v∈enc x,v.oneCell'=true) (hk:an P k (DA ι) DB 1):cJ enc P k:=by
 intro l v H hv hn;refine ah hk (args:=[_]) (by simp) ?_;unfold DA DB kA kB kC kV kc kY kZ;obtain⟨a,c,rfl,hc⟩:=hv.mk
 cases a with
 |none=>
  have h0:l=[]:=by
   rcases hv with⟨_,_,_,h⟩|⟨_,_,_,_,h,_⟩
   ·exact h
   ·cases h
  subst h0;simp-implicitDefEqProofs only[go_sem,zS,↓reduceIte,Za,Zb,Zc,reduceCtorEq,ae];exact⟨ct.nil _,fun k h=>h.elim,af.refl _ _⟩
 |some p=>
  simp-implicitDefEqProofs only[go_sem,zS,↓reduceIte,Za,Zb,Zc,reduceCtorEq];refine aG fun H1 b1 e1 z1 B1 K1=>?_;have s1:=K1.size;simp-implicitDefEqProofs only[go_sem,zS,↓reduceIte,Za,Zb,Zc,reduceCtorEq];have gX:ct enc 2 H1 (.slice (some ⟨b1,0,none⟩) 0 0) []:=ct.bl B1 rfl (by omega) (by omega) (by simp);refine nS (l:=([]:List α)) (m:=l) H.size hl h1 gX (fun q hq=>by have hq:q=b1:=hq;omega) (by omega) (hv.ai K1) rfl (by omega) (by simp;omega) fun v3 H3 O3 own3 K3=>?_;rw[List.nil_append]at O3;simp-implicitDefEqProofs only[go_sem,zS,↓reduceIte,Za,Zb,Zc,reduceCtorEq,ae];exact⟨O3,own3,K1.nQ K3 (Nat.le_refl _)⟩
def k7 (P:Program) (k:FuncId):Prop:=∀(F:dz) (v:Value) (H:Hp),bW H v F->F.st.length<=1000->F.be.length<=1000->F.di.length<=1000->F.sa.length<=1000->F.mo.length<=1000->ak P k #[v] H fun r H'=>(∃s b d a m,r=.agg #[s,b,d,a,m])/\bW H' r F/\af (fun _=>False) H H'
theorem Kl (hk:an P k (xJ ι) xK 1) (hS:cJ cL P (ι.f 389)) (hP:cJ pE P (ι.f 204)) (hM:cJ dp P (ι.f 375)):k7 P k:=by
 intro F v H hv l1 l2 l3 l4 l5;obtain⟨s,b,d,a,m,ms,rfl,h1,h2,h3,h4,h5,h6⟩:=hv;have pO:=h6.len;refine ah hk (args:=[_]) (by simp) ?_;unfold xJ xK kR kW ka kb kd kg kY kZ;simp-implicitDefEqProofs only[go_sem,zS,↓reduceIte,Za,Zb,Zc,reduceCtorEq,zU,zV,Zf,Zg,Zh,Zi,Zd,Ze,zF];refine al fun H1 b1 e1 z1 B1 K1=>?_;have cf:Bl H1 b1 [s,b,d,a,m]:=B1;simp-implicitDefEqProofs only[go_sem,zS,↓reduceIte,Za,Zb,Zc,reduceCtorEq,zU,zV,Zf,Zg,Zh,Zi,Zd,Ze,zF];refine al fun H2 b2 e2 z2 B2 K2=>?_;have jc:Bl H2 b2 [.slice none 0 0,.slice none 0 0,.slice none 0 0,.slice none 0 0,.slice none 0 0]:=B2;have cG:=K1.trans K2;have fY:=K2.bl cf (by simp);have k0:cell H2 ⟨b1,0,none⟩=some s:=by rw[fY.cell];rfl
 have k1:cell H2 ⟨b1,1,none⟩=some b:=by rw[fY.cell];rfl
 have k2:cell H2 ⟨b1,2,none⟩=some d:=by rw[fY.cell];rfl
 have k3:cell H2 ⟨b1,3,none⟩=some a:=by rw[fY.cell];rfl
 have k4:cell H2 ⟨b1,4,none⟩=some m:=by rw[fY.cell];rfl
 have hne:(b1=b2)=False:=eq_false (by have:=cf.lt;omega);have s1:=K1.size;have ab9:=jc.lt;simp-implicitDefEqProofs only[go_sem,zS,↓reduceIte,Za,Zb,Zc,reduceCtorEq,zU,zV,Zf,Zg,Zh,Zi,Zd,Ze,zF];refine bj (fun q=>q=b2) ?_;simp-implicitDefEqProofs only[go_sem,zS,↓reduceIte,Za,Zb,Zc,reduceCtorEq,zU,zV,Zf,Zg,Zh,Zi,Zd,Ze,zF,k0,k1,k2,k3,k4,hne];refine(hS F.st s H2 (h1.ai cG) (by omega)).mono ?_;rintro r1 X1 ⟨O1,o1,G1⟩;rw[aF];refine⟨G1.any,?_⟩;simp-implicitDefEqProofs only[go_sem,zS,↓reduceIte,Za,Zb,Zc,reduceCtorEq,zU,zV,Zf,Zg,Zh,Zi,Zd,Ze,zF];have Rc:=cG.trans G1;refine(hP F.be b X1 (h2.ai Rc) (by omega)).mono ?_;rintro r2 X2 ⟨O2,o2,G2⟩;rw[aF];refine⟨G2.any,?_⟩;simp-implicitDefEqProofs only[go_sem,zS,↓reduceIte,Za,Zb,Zc,reduceCtorEq,zU,zV,Zf,Zg,Zh,Zi,Zd,Ze,zF];have Re:=Rc.trans G2;refine(hP F.di d X2 (h3.ai Re) (by omega)).mono ?_;rintro r3 X3 ⟨O3,o3,G3⟩;rw[aF];refine⟨G3.any,?_⟩;simp-implicitDefEqProofs only[go_sem,zS,↓reduceIte,Za,Zb,Zc,reduceCtorEq,zU,zV,Zf,Zg,Zh,Zi,Zd,Ze,zF];have Gu:=Re.trans G3;refine(hP F.sa a X3 (h4.ai Gu) (by omega)).mono ?_;rintro r4 X4 ⟨O4,o4,G4⟩;rw[aF];refine⟨G4.any,?_⟩;simp-implicitDefEqProofs only[go_sem,zS,↓reduceIte,Za,Zb,Zc,reduceCtorEq,zU,zV,Zf,Zg,Zh,Zi,Zd,Ze,zF];have KX4:=Gu.trans G4;refine(hM ms m X4 (h5.ai KX4) (by omega)).mono ?_;rintro r5 X5 ⟨O5,o5,G5⟩;rw[aF];refine⟨G5.any,?_⟩;have KX5:=KX4.trans G5;have z1:=G1.size;have z2:=G2.size;have z3:=G3.size;have z4:=G4.size;have p1:=(((O1.sl.ai G2).ai G3).ai G4).ai G5;have p2:=((O2.sl.ai G3).ai G4).ai G5;have p3:=(O3.sl.ai G4).ai G5;have p4:=O4.sl.ai G5;have p5:=O5.sl;have QW:=((((G1.trans G2).trans G3).trans G4).trans G5).bl jc (by simp);have t:=QW.bK (o:=0) (n:=5) (by simp);have w1:∀q,aV r1 q->¬q=b2:=fun q hq e=>by have:=o1 q (O1.aV hq);omega
 have w2:∀q,aV r2 q->¬q=b2:=fun q hq e=>by have:=o2 q (O2.aV hq);omega
 have w3:∀q,aV r3 q->¬q=b2:=fun q hq e=>by have:=o3 q (O3.aV hq);omega
 have w4:∀q,aV r4 q->¬q=b2:=fun q hq e=>by have:=o4 q (O4.aV hq);omega
 have w5:∀q,aV r5 q->¬q=b2:=fun q hq e=>by have:=o5 q (O5.aV hq);omega
 obtain⟨a1,n1,c1,rfl⟩:=O1.shape;obtain⟨a2,n2,c2,rfl⟩:=O2.shape;obtain⟨a3,n3,c3,rfl⟩:=O3.shape;obtain⟨a4,n4,c4,rfl⟩:=O4.shape;obtain⟨a5,n5,c5,rfl⟩:=O5.shape;have ha:bI #[Value.slice a1 n1 c1,.slice a2 n2 c2,.slice a3 n3 c3,.slice a4 n4 c4,.slice a5 n5 c5]:=bg rfl;have K:af (fun q=>q=b2) X5 (az X5 ⟨b2,0,none⟩ [.slice a1 n1 c1,.slice a2 n2 c2,.slice a3 n3 c3,.slice a4 n4 c4,.slice a5 n5 c5]):=(af.refl _ _).az _ (.inl rfl);have B':Bl (az X5 ⟨b2,0,none⟩ [.slice a1 n1 c1,.slice a2 n2 c2,.slice a3 n3 c3,.slice a4 n4 c4,.slice a5 n5 c5]) b2 [.slice a1 n1 c1,.slice a2 n2 c2,.slice a3 n3 c3,.slice a4 n4 c4,.slice a5 n5 c5]:=QW.az 0 [.slice a1 n1 c1,.slice a2 n2 c2,.slice a3 n3 c3,.slice a4 n4 c4,.slice a5 n5 c5];have KF:af (fun _=>False) H (az X5 ⟨b2,0,none⟩ [.slice a1 n1 c1,.slice a2 n2 c2,.slice a3 n3 c3,.slice a4 n4 c4,.slice a5 n5 c5]):=KX5.trans' K fun q hq e=>by omega
 have fin:bW (az X5 ⟨b2,0,none⟩ [.slice a1 n1 c1,.slice a2 n2 c2,.slice a3 n3 c3,.slice a4 n4 c4,.slice a5 n5 c5]) (.agg #[.slice a1 n1 c1,.slice a2 n2 c2,.slice a3 n3 c3,.slice a4 n4 c4,.slice a5 n5 c5]) F:=
  ⟨_,_,_,_,_,ms,rfl,p1.ag K w1,p2.ag K w2,p3.ag K w3,p4.ag K w4,p5.ag K w5,h6.ai KF⟩
 have l2:aD (az X5 ⟨b2,0,none⟩ [.slice a1 n1 c1,.slice a2 n2 c2,.slice a3 n3 c3,.slice a4 n4 c4,.slice a5 n5 c5]) (.pointer (some ⟨b2,0,none⟩)) 5=some #[.slice a1 n1 c1,.slice a2 n2 c2,.slice a3 n3 c3,.slice a4 n4 c4,.slice a5 n5 c5]:=B'.aD 5 rfl;have hw:jh (jh (jh (jh (jh #[Value.slice none 0 0,.slice none 0 0,.slice none 0 0,.slice none 0 0,.slice none 0 0] 0 [.slice a1 n1 c1]) 1 [.slice a2 n2 c2]) 2 [.slice a3 n3 c3]) 3 [.slice a4 n4 c4]) 4 [.slice a5 n5 c5]=#[.slice a1 n1 c1,.slice a2 n2 c2,.slice a3 n3 c3,.slice a4 n4 c4,.slice a5 n5 c5]:=rfl;simp-implicitDefEqProofs only[go_sem,zS,↓reduceIte,Za,Zb,Zc,reduceCtorEq,zU,zV,Zf,Zg,Zh,Zi,Zd,Ze,zF,t,hw];refine⟨ha,K,?_⟩;simp-implicitDefEqProofs only[go_sem,zS,↓reduceIte,Za,Zb,Zc,reduceCtorEq,zU,zV,Zf,Zg,Zh,Zi,Zd,Ze,zF,cU,cV,l2];exact⟨⟨_,_,_,_,_,rfl⟩,fin,KF⟩
end Go.Mg
namespace Go.Mg
open Go Go.RowKit
def Aj (ι:aC):T:=
 (kW 33 (.m (.gz #[kZ,kZ,kZ,kZ,kZ,kZ,kZ] [(0,(5,.t 26)),(5,(1,.t 28)),(6,(1,.t 32))])) (ka 34 (.box (ι.t 387) (.t 33)) (kX 8 (.mv (.t 34)) .done) .wnil))
def Km (ι:aC):S:=
 (.dr (kW 25 (.m (.ldn 5 (.v 2))) (kW 27 (.mv (.v 1)) (kW 29 (.fa 0 (.v 2)) (kW 30 (.ld (.t 29)) (kW 31 (.m (.lenl (.t 30))) (ka 26 (kg (ι.f 390) [.t 25]) (ka 28 (kg (ι.f 374) [.t 27]) (ka 32 (.pV (ι.t 26) 1 8 #[.int .i64 0] (.t 31) (.t 31)) (Aj ι) .wnil) (ka 32 (.pV (ι.t 26) 1 8 #[.int .i64 0] (.t 31) (.t 31)) (ka 28 (kg (ι.f 374) [.t 27]) (Aj ι) .wnil) .wnil)) (ka 32 (.pV (ι.t 26) 1 8 #[.int .i64 0] (.t 31) (.t 31)) (ka 26 (kg (ι.f 390) [.t 25]) (ka 28 (kg (ι.f 374) [.t 27]) (Aj ι) .wnil) .wnil) .wnil))))))))
def ta (ι:aC):S:=
 kY [kR 2 (ι.t 296) 0,kC 4 (.pointer .none),kC 5 (.int .i64 0)] (.seq (kY [kM 11 5 2,kU 12 (.m (.gz #[kZ] [])),kc 13 (kg (ι.f 307) [.t 11,.c (.int .i64 63),.t 12]),kB 6 13] (kY [kA 14 6,kV 15 (.cm .neq .i64 (.t 14) (.c (.int .i64 0)))] (.ite (.v 15) (kY [kA 16 6,kC 4 (.pointer .none),kB 5 16] .ret) .skip))) (.seq (kY [kA 17 1,kG 18 0 2,kD 19 18,kL 20 19,kc 21 (kg (ι.f 378) [.t 17,.t 20]),kB 7 21] (kY [kA 22 7,kV 23 (.cm .neq .i64 (.t 22) (.c (.int .i64 0)))] (.ite (.v 23) (kY [kA 24 7,kC 4 (.pointer .none),kB 5 24] .ret) .skip))) (.seq (Km ι) (.seq (kY [kA 36 8,kA 37 8,kU 38 (.nil (.t 37)),kU 39 (.fa 6 (.t 38)),kD 40 39,kc 41 (kg (ι.f 377) [.t 36,.t 40]),kF 35 41,kQ 42 35 0,kQ 43 35 1,kF 9 42,kB 10 43] (kY [kA 44 10,kV 45 (.not (.t 44))] (.ite (.v 45) (kY [kC 4 (.pointer .none),kC 5 (.int .i64 12)] .ret) .skip))) (kY [kA 46 8,kB 4 46,kC 5 (.int .i64 0)] .ret)))))
def tf:List RV:=[.t 4,.t 5]
def StK (F:dz) (el:List (Nat->Bool)) (A:Hp) (f:Fr) (Q:Fr->Hp->Prop):Prop:=∀X rb,fJ X rb F el (List.replicate el.length 0)->af (fun _=>False) A X->Q (bw f 8 (.pointer (some ⟨rb,0,none⟩))) X
variable {P:Program} {ι:aC} {F:dz} {vs:List Value} {A:Hp} {f:Fr} {s b d a m:Value}
theorem DC {el:List (Nat->Bool)} {X:Hp} {e:Env} {Q:Fr->Hp->Prop} {w z:Value} (hK:StK F el A f Q) (KA:af (fun _=>False) A X)
  (e1:look e 26=.agg #[s,b,d,a,m]) (e2:look e 28=w) (e3:look e 32=z) (hF:bW X (.agg #[s,b,d,a,m]) F) (hw:aM X w vs) (hz:aM X z (iL (List.replicate el.length 0))) (hl:vs.length=el.length) (hst:F.st.length=el.length) (hes:∀i<vs.length,aQ X (.agg #[vs.getD i undef]) (el.getD i fun _=>false)):cT P (fun _=>False) (Aj ι) e f X Q:=by
 obtain⟨wa,wc,rfl,-⟩:=hw.mk;obtain⟨za,zc,rfl,-⟩:=hz.mk;unfold Aj kW kX ka kZ;have Kp:∀(T:TypeId) (y:Array Value),af (fun _=>False) X (X.push (.cells y T)):=fun T y=>(af.refl _ _).push _;simp-implicitDefEqProofs only[go_sem,zS,↓reduceIte,Za,Zb,Zc,reduceCtorEq,zU,zV,Zf,Zg,Zh,Zi,Zd,Ze,zF,e1,e2,e3];refine⟨(af.refl _ _).push _,hK _ X.size ?_ (KA.trans (Kp _ _))⟩;exact⟨s,b,d,a,m,_,_,vs,Bl.cH _ _ _,hF.ai (Kp _ _),hw.ag (Kp _ _) (by simp),hl,hst,fun i hi=>(hes i hi).ai (Kp _ _),hz.ag (Kp _ _) (by simp)⟩
theorem T8 (hC:k7 P (ι.f 390)) (hB:iG P (ι.f 374)) {el:List (Nat->Bool)} {b2:Nat} {ev:Value} {Qb:Ex->Fr->Hp->Prop}
  (f1:f 1=ev) (f2:f 2=.pointer (some ⟨b2,0,none⟩)) (B2:Bl A b2 [s,b,d,a,m]) (hF:bW A (.agg #[s,b,d,a,m]) F) (hev:aM A ev vs) (hl:vs.length=el.length) (hst:F.st.length=el.length) (hn:el.length<=1000) (hes:∀i<vs.length,aQ A (.agg #[vs.getD i undef]) (el.getD i fun _=>false)) (hvs:∀x∈vs,aq x)
  (l2:F.be.length<=1000) (l3:F.di.length<=1000) (l4:F.sa.length<=1000) (l5:F.mo.length<=1000) (hK:StK F el A f (Qb .n)):vc P (Km ι) Qb f A:=by
 unfold Km kW ka kg;have c0:cell A ⟨b2,0,none⟩=some s:=by rw[B2.cell];rfl
 have ll:aD A (.pointer (some ⟨b2,0,none⟩)) 5=some #[s,b,d,a,m]:=B2.aD 5 rfl;have lS:aq s/\aO s=el.length:=by
  obtain⟨s',b',d',a',m',ms,e,h1,_⟩:=hF
  cases e
  exact⟨h1.aq,by rw[h1.len,hst]⟩
 have cp:∀X,af (fun _=>False) A X->ak P (ι.f 390) #[.agg #[s,b,d,a,m]] X fun r X'=>(∃s b d a m,r=.agg #[s,b,d,a,m])/\bW X' r F/\af (fun _=>False) X X':=fun X K=>hC F _ X (hF.ai K) (by omega) l2 l3 l4 l5;have cb:∀X,af (fun _=>False) A X->ak P (ι.f 374) #[ev] X fun r X'=>aM X' r vs/\af (fun _=>False) X X':=fun X K=>(hB vs ev X (hev.ag K (by simp)) hvs (by omega)).mono fun r X' ⟨O,o,K'⟩=>⟨O.sl,K'⟩
 have mk:∀(X:Hp) (T:TypeId),aM (X.push (.cells (rep #[.int .i64 0] el.length) T)) (.slice (some ⟨X.size,0,none⟩) el.length el.length) (iL (List.replicate el.length 0)):=fun X T=>by
  have B:=Bl.cH X (rep #[.int .i64 0] el.length) T;rw[dg,qR]at B;exact(bY.new (n:=el.length) (c:=el.length) B (by simp[aA]) rfl).sl
 have Kp:∀(X:Hp) (T:TypeId) (y:Array Value),af (fun _=>False) X (X.push (.cells y T)):=fun X T y=>(af.refl _ _).push _;refine bj (fun _=>False) ?_;simp-implicitDefEqProofs only[go_sem,zS,↓reduceIte,Za,Zb,Zc,reduceCtorEq,zU,zV,Zf,Zg,Zh,Zi,Zd,Ze,zF,f1,f2,c0,ll,lS.1,lS.2];have ZI:(0:Int)<=(el.length:Int)/\8*(el.length:Int)<=281474976710656/\(el.length:Int)<=(maxLen:Int):=⟨by omega,by omega,by unfold maxLen;omega⟩
 have Xz:(0:Int)<=(el.length:Int):=ZI.1;have XA:8*(el.length:Int)<=281474976710656:=ZI.2.1;have XB:(el.length:Int)<=(maxLen:Int):=ZI.2.2;refine⟨(cp A (af.refl _ _)).mono ?_,ZI,Kp _ _ _,(cp _ (Kp _ _ _)).mono ?_⟩
 ·rintro r X1 ⟨⟨s',b',d',a',m',rfl⟩,Xy,K1⟩;rw[aF];refine⟨K1,?_⟩;simp-implicitDefEqProofs only[go_sem,zS,↓reduceIte,Za,Zb,Zc,reduceCtorEq,zU,zV,Zf,Zg,Zh,Zi,Zd,Ze,zF,Xz,XA,XB];refine⟨(cb X1 K1).mono ?_,Kp _ _ _,(cb _ (K1.trans (Kp _ _ _))).mono ?_⟩
  ·rintro w X2 ⟨hw,K2⟩;rw[aF];refine⟨K2,?_⟩;simp-implicitDefEqProofs only[go_sem,zS,↓reduceIte,Za,Zb,Zc,reduceCtorEq,zU,zV,Zf,Zg,Zh,Zi,Zd,Ze,zF,Xz,XA,XB];refine⟨Kp _ _ _,?_⟩;have K:=(K1.trans K2).trans (Kp X2 (ι.t 26) (rep #[.int .i64 0] el.length));exact DC hK K rfl rfl rfl (Xy.ai (K2.trans (Kp _ _ _))) (hw.ag (Kp _ _ _) (by simp)) (mk _ _) hl hst fun i hi=>(hes i hi).ai K
  ·rintro w X2 ⟨hw,K2⟩;rw[aF];refine⟨K2,?_⟩;have K:=(K1.trans (Kp X1 (ι.t 26) (rep #[.int .i64 0] el.length))).trans K2;simp-implicitDefEqProofs only[go_sem,zS,↓reduceIte,Za,Zb,Zc,reduceCtorEq,zU,zV,Zf,Zg,Zh,Zi,Zd,Ze,zF];exact DC hK K rfl rfl rfl (Xy.ai ((Kp _ _ _).trans K2)) hw ((mk _ _).ag K2 (by simp)) hl hst fun i hi=>(hes i hi).ai K
 ·rintro r X1 ⟨⟨s',b',d',a',m',rfl⟩,Xy,K1⟩;rw[aF];refine⟨K1,?_⟩;simp-implicitDefEqProofs only[go_sem,zS,↓reduceIte,Za,Zb,Zc,reduceCtorEq,zU,zV,Zf,Zg,Zh,Zi,Zd,Ze,zF];refine(cb X1 ((Kp _ _ _).trans K1)).mono ?_;rintro w X2 ⟨hw,K2⟩;rw[aF];refine⟨K2,?_⟩;have K:=((Kp A (ι.t 26) (rep #[.int .i64 0] el.length)).trans K1).trans K2;simp-implicitDefEqProofs only[go_sem,zS,↓reduceIte,Za,Zb,Zc,reduceCtorEq,zU,zV,Zf,Zg,Zh,Zi,Zd,Ze,zF];exact DC hK K rfl rfl rfl (Xy.ai K2) hw ((mk _ _).ag (K1.trans K2) (by simp)) hl hst fun i hi=>(hes i hi).ai K
def gw (P:Program) (ι:aC) (k:FuncId):Prop:=∀(F:dz) (el:List (Nat->Bool)) (vs:List Value) (v ev:Value) (H:Hp),aU ι H->bW H v F->aM H ev vs->vs.length=el.length->el.length<=1000->(∀i<vs.length,aQ H (.agg #[vs.getD i undef]) (el.getD i fun _=>false))→
  (ef F 63 (fun _=>false)=0->el.length=F.st.length->(∀i,i<el.length->¬sR (el.getD i fun _=>false))->bP (aZ F el)/\jV (aZ F el) (List.replicate el.length 0)/\F.be.length<=1000)→
  ak P k #[v,ev] H fun r H'=>af (fun _=>False) H H'∧
    ((ef F 63 (fun _=>false)≠0/\r=.tuple #[.pointer none,.int .i64 (ef F 63 (fun _=>false))])∨
     (ef F 63 (fun _=>false)=0/\el.length≠F.st.length/\r=.tuple #[.pointer none,.int .i64 1])∨
     (ef F 63 (fun _=>false)=0/\el.length=F.st.length/\(∃i,i<el.length/\sR (el.getD i fun _=>false))/\r=.tuple #[.pointer none,.int .i64 2])∨
     (ef F 63 (fun _=>false)=0/\el.length=F.st.length/\(∀i,i<el.length->¬sR (el.getD i fun _=>false))∧
       ((cM (aZ F el) (List.replicate el.length 0)=none/\r=.tuple #[.pointer none,.int .i64 12])∨
        ((cM (aZ F el) (List.replicate el.length 0)).isSome=true/\∃rb,r=.tuple #[.pointer (some ⟨rb,0,none⟩),.int .i64 0]/\fJ H' rb F el (List.replicate el.length 0)))))
structure aca (P:Program) (ι:aC):Prop where
 chk:mY P ι (ι.f 307)
 usr:sS P (ι.f 378)
 cpy:k7 P (ι.f 390)
 cln:iG P (ι.f 374)
 pln:iH P ι (ι.f 377)
theorem GD {k:FuncId} (hk:an P k (ta ι) tf 2) (c:aca P ι):gw P ι k:=by
  intro F el vs v ev H hT hF hev hl uL hes hgood;have hF0:=hF;obtain⟨s,b,d,a,m,ms,rfl,h1,h2,h3,h4,h5,h6⟩:=hF;have hvs:∀x∈vs,aq x:=fun x hx=>by
    obtain⟨i,hi,rfl⟩:=List.getElem_of_mem hx;obtain⟨u,W,e,hV⟩:=hes i hi;rw[List.getD_eq_getElem?_getD,List.getElem?_eq_getElem hi,Option.getD_some]at e
    cases e
    exact hV.sl.aq
  obtain⟨Q,hQ⟩:∃Q:Value->Hp->Prop,Q=fun r H'=>af (fun _=>False) H H'∧
    ((ef F 63 (fun _=>false)≠0/\r=.tuple #[.pointer none,.int .i64 (ef F 63 (fun _=>false))])∨
     (ef F 63 (fun _=>false)=0/\el.length≠F.st.length/\r=.tuple #[.pointer none,.int .i64 1])∨
     (ef F 63 (fun _=>false)=0/\el.length=F.st.length/\(∃i,i<el.length/\sR (el.getD i fun _=>false))/\r=.tuple #[.pointer none,.int .i64 2])∨
     (ef F 63 (fun _=>false)=0/\el.length=F.st.length/\(∀i,i<el.length->¬sR (el.getD i fun _=>false))∧
       ((cM (aZ F el) (List.replicate el.length 0)=none/\r=.tuple #[.pointer none,.int .i64 12])∨
        ((cM (aZ F el) (List.replicate el.length 0)).isSome=true/\∃rb,r=.tuple #[.pointer (some ⟨rb,0,none⟩),.int .i64 0]/\fJ H' rb F el (List.replicate el.length 0))))):=⟨_,rfl⟩
  rw[<-hQ];refine ah hk (args:=[_,_]) (by simp) ?_;unfold ta tf kA kB kF kC kD kG kL kM kQ kR kU kV kc kg kY kZ;simp-implicitDefEqProofs only[go_sem,zS,↓reduceIte,Za,Zb,Zc,reduceCtorEq,zU,zV,Zf,Zg,Zh,Zi,Zd,Ze,zF];refine al fun H1 b2 e1 z1 B1 K1=>?_;have cf:Bl H1 b2 [s,b,d,a,m]:=B1;have l5:aD H1 (.pointer (some ⟨b2,0,none⟩)) 5=some #[s,b,d,a,m]:=cf.aD 5 rfl;simp-implicitDefEqProofs only[go_sem,zS,↓reduceIte,Za,Zb,Zc,reduceCtorEq,zU,zV,Zf,Zg,Zh,Zi,Zd,Ze,zF,l5];refine(c.chk F _ _ 63 (fun _=>false) H1 (hT.ag K1) (hF0.ai K1) (aQ.empty _ _ _)).mono ?_;rintro r H2 ⟨rfl,K2⟩;have jo:=K1.trans K2;rw[ae]
  by_cases x1:ef F 63 (fun _=>false)=0
  case neg=>
    have q1:(ef F 63 (fun _=>false)!=0)=true:=bne_iff_ne.2 x1;simp-implicitDefEqProofs only[go_sem,zS,↓reduceIte,Za,Zb,Zc,reduceCtorEq,zU,zV,Zf,Zg,Zh,Zi,Zd,Ze,zF,q1];rw[hQ];exact⟨jo,.inl ⟨x1,rfl⟩⟩
  have q1:(ef F 63 (fun _=>false)!=0)=false:=by rw[x1];rfl
  have B2:=K2.bl cf (by simp);have c0:cell H2 ⟨b2,0,none⟩=some s:=by rw[B2.cell];rfl
  have ls:aO s=F.st.length:=h1.len;simp-implicitDefEqProofs only[go_sem,zS,↓reduceIte,Za,Zb,Zc,reduceCtorEq,zU,zV,Zf,Zg,Zh,Zi,Zd,Ze,zF,q1,c0,h1.aq,ls];refine(c.usr el vs ev (F.st.length:Int) H2 (hev.ag jo (by simp)) hl uL fun i hi=>(hes i hi).ai jo).mono ?_;rintro r H3 ⟨e,rfl,K3,Kn⟩;have vG:=jo.trans K3;rw[ae];rcases Kn with⟨hne,rfl⟩|⟨heq,⟨rfl,tY⟩|⟨rfl,hok⟩⟩
  · have q2:((1:Int)!=0)=true:=rfl;simp-implicitDefEqProofs only[go_sem,zS,↓reduceIte,Za,Zb,Zc,reduceCtorEq,zU,zV,Zf,Zg,Zh,Zi,Zd,Ze,zF,q2];rw[hQ];exact⟨vG,.inr (.inl ⟨x1,by omega,rfl⟩)⟩
  · have q2:((2:Int)!=0)=true:=rfl;simp-implicitDefEqProofs only[go_sem,zS,↓reduceIte,Za,Zb,Zc,reduceCtorEq,zU,zV,Zf,Zg,Zh,Zi,Zd,Ze,zF,q2];rw[hQ];exact⟨vG,.inr (.inr (.inl ⟨x1,by omega,tY,rfl⟩))⟩
  have Pv:el.length=F.st.length:=by omega
  obtain⟨hG,hB,Tu⟩:=hgood x1 Pv hok;have q2:((0:Int)!=0)=false:=rfl;have g1:F.di.length<=20:=hG.dl;have g2:F.sa.length<=20:=hG.sl;have g3:F.mo.length<=20:=hG.ml;simp-implicitDefEqProofs only[go_sem,zS,↓reduceIte,Za,Zb,Zc,reduceCtorEq,zU,zV,Zf,Zg,Zh,Zi,Zd,Ze,zF,q2];refine T8 c.cpy c.cln (F:=F) (el:=el) (vs:=vs) (b2:=b2) (ev:=ev) (by simp-implicitDefEqProofs only[go_sem,zS,↓reduceIte,Za,Zb,Zc,reduceCtorEq,ae,zU,zV,Zf,Zg,Zh,Zi,Zd,Ze]) (by simp-implicitDefEqProofs only[go_sem,zS,↓reduceIte,Za,Zb,Zc,reduceCtorEq,ae,zU,zV,Zf,Zg,Zh,Zi,Zd,Ze]) (K3.bl B2 (by simp)) (hF0.ai vG) (hev.ag vG (by simp)) hl Pv.symm uL (fun i hi=>(hes i hi).ai vG) hvs Tu (by omega) (by omega) (by omega) fun X rb hR KX=>?_;obtain⟨sv,c6,hsv⟩:=hR.Ai;have lh:=vG.trans KX;simp-implicitDefEqProofs only[go_sem,zS,↓reduceIte,Za,Zb,Zc,reduceCtorEq,zU,zV,Zf,Zg,Zh,Zi,Zd,Ze,zF,c6];refine(c.pln F el _ _ rb sv X (hT.ag lh) hR hsv hG hB).mono ?_;rintro r X1 ⟨y,rfl,K4,-⟩;rw[ae]
  cases hso:(cM (aZ F el) (List.replicate el.length 0)).isSome with
  |false=>
    simp-implicitDefEqProofs only[go_sem,zS,↓reduceIte,Za,Zb,Zc,reduceCtorEq,zU,zV,Zf,Zg,Zh,Zi,Zd,Ze,zF,Bool.not_false];rw[hQ];exact⟨lh.trans K4,.inr (.inr (.inr ⟨x1,Pv,hok,.inl ⟨Option.isNone_iff_eq_none.1 (by rw[<-Option.not_isSome,hso];rfl),rfl⟩⟩))⟩
  |true=>
    simp-implicitDefEqProofs only[go_sem,zS,↓reduceIte,Za,Zb,Zc,reduceCtorEq,zU,zV,Zf,Zg,Zh,Zi,Zd,Ze,zF,Bool.not_true];rw[hQ];exact⟨lh.trans K4,.inr (.inr (.inr ⟨x1,Pv,hok,.inr ⟨hso,rb,rfl,hR.ai K4⟩⟩))⟩
end Go.Mg
namespace Go.Mg
open Go Go.RowKit
def Ko (ι:aC):S:=
 (kY [kU 31 (.ld (.v 2)),kU 32 (.ld (.v 3)),kA 33 6,kc 34 (kg (ι.f 386) [.t 31,.t 32,.t 33]),kV 35 (.cm .eql .u8 (.t 34) (.c (.int .u8 1)))] (.ite (.v 35) (.reg [kU 36 (.ld (.v 5)),kA 37 6,kc 38 (.bF (ι.t 26) 1 1 [.t 37]),kc 39 (.app false (ι.t 26) 1 8 #[.int .i64 0] (.t 36) (.t 38)),kf (.st (.v 5) (.t 39))]) .skip))
def DD (ι:aC):S:=
 kY [kR 2 (ι.t 392) 0,kR 3 (ι.t 26) 1,kC 4 (kZ)] (.seq (kY [kU 7 (.ld (.v 2)),kU 8 (.m (.eqn .ptr false (.t 7))),kF 9 8,kT 10 9 false (.ld (.v 3)),kT 11 9 false (.cm .lss .i64 (.t 10) (.c (.int .i64 0))),kU 12 (.pick (.t 9) (.c (.bool true)) (.t 11)),kF 13 12,kT 14 13 false (.ld (.v 3)),kT 15 13 false (.ld (.v 2)),kT 16 13 false (.nil (.t 15)),kT 17 13 false (.fa 6 (.t 16)),kT 18 13 false (.ld (.t 17)),kT 19 13 false (.m (.lenl (.t 18))),kT 20 13 false (.cm .geq .i64 (.t 14) (.t 19)),kV 21 (.pick (.t 13) (.c (.bool true)) (.t 20))] (.ite (.v 21) (kY [kC 4 (kZ)] .ret) .skip)) (kY [kd 5 (.new (ι.t 138) #[kZ])] (.seq (kY [kU 22 (.ld (.v 2)),kU 23 (.nil (.t 22)),kU 24 (.fa 5 (.t 23)),kD 25 24,kU 26 (.ld (.v 3)),kI 27 1 25 26,kN 28 1 27,kd 29 (kg (ι.f 137) [.t 28])] (.blk 0 (.rf 41 (.v 29) 30 6 (.blk 1 (Ko ι))))) (kY [kU 40 (.ld (.v 5)),kB 4 40] .ret))))
def DE:List RV:=[.t 4]
def lV (F:dz) (el:List (Nat->Bool)) (st:List Int) (step:Nat) (k:Nat):List Nat:=((aJ (el.getD step fun _=>false)).take k).filter fun u=>decide (dY F el st (step:Int) ((u:Nat):Int)=1)
variable {P:Program} {ι:aC}
theorem T9 (ha:jW P ι (ι.f 386)) {F:dz} {el:List (Nat->Bool)} {st:List Int} {rb b2 b3 b5 step u C:Nat} {l:List Nat} {w:Value} {f:Fr} {A:Hp} {Qb:Ex->Fr->Hp->Prop}
  (f2:f 2=.pointer (some ⟨b2,0,none⟩)) (f3:f 3=.pointer (some ⟨b3,0,none⟩)) (f5:f 5=.pointer (some ⟨b5,0,none⟩)) (f6:f 6=.int .i64 (u:Int)) (B2:Bl A b2 [.pointer (some ⟨rb,0,none⟩)]) (B3:Bl A b3 [.int .i64 (step:Int)]) (B5:Bl A b5 [w]) (O:bY A w (iN l)) (ho:∀q,ay w q->C<=q) (h5:b5<C) (hC:C<=A.size) (hl:l.length<=100000)
  (hT:aU ι A) (hR:fJ A rb F el st) (hok:CO F=true) (hsl:st.length=el.length) (hG:bP (aZ F el)) (hB:∀i u,i<st.length->bS (el.getD i fun _=>false) u=true->jV (aZ F el) (st.set i u))
  (hK:∀f' A' w',Bl A' b5 [w']->bY A' w' (iN (if dY F el st (step:Int) (u:Int)=1 then l++[u]else l))->(∀q,ay w' q->C<=q)->af (fun q=>q=b5\/C<=q) A A'->Qb .n f' A'):vc P (Ko ι) Qb f A:=by
 unfold Ko kA kU kV kc kf kg kY;have c2:cell A ⟨b2,0,none⟩=some (.pointer (some ⟨rb,0,none⟩)):=by rw[B2.cell];rfl
 have c3:cell A ⟨b3,0,none⟩=some (.int .i64 (step:Int)):=by rw[B3.cell];rfl
 simp-implicitDefEqProofs only[go_sem,zS,↓reduceIte,Za,Zb,Zc,reduceCtorEq,zU,zV,Zf,Zg,Zh,Zi,Zd,Ze,zF,f2,f3,f6,c2,c3];refine(ha.1 F el st rb (step:Int) (u:Int) A hT hR hok hsl hG hB).mono ?_;rintro r A1 ⟨rfl,K1⟩;rw[ae]
 by_cases h:dY F el st (step:Int) (u:Int)=1
 ·have d:(dY F el st (step:Int) (u:Int)==1)=true:=by rw[h];rfl
  rw[if_pos h]at hK;have Zy:=K1.bl B5 (by simp);have c5:cell A1 ⟨b5,0,none⟩=some w:=by rw[Zy.cell];rfl
  have sz:=K1.size;simp-implicitDefEqProofs only[go_sem,zS,↓reduceIte,Za,Zb,Zc,reduceCtorEq,zU,zV,Zf,Zg,Zh,Zi,Zd,Ze,zF,d,f5,f6,c5];refine aG fun A2 b9 e9 z9 B9 K9=>?_;have Wu:Bl A2 b9 (iN [u]):=B9;have s9:=K9.size;simp-implicitDefEqProofs only[go_sem,zS,↓reduceIte,Za,Zb,Zc,reduceCtorEq,zU,zV,Zf,Zg,Zh,Zi,Zd,Ze,zF];refine kh C ((O.ag K1 (by simp)).ag K9 (by simp)) ho (by omega) (aM.bl Wu 0 1 1 (by omega) (by simp[aW])) (gH [((u:Nat):Int)]) rfl (by omega) (by simp[aW];omega) fun w' A3 O3 o3 K3=>?_;have Vq:=K3.bl (K9.bl Zy (by simp)) (by omega);have t5:=Vq.br (o:=0) (by simp);have Hj:=Vq.ax 0 w';have K5:af (fun q=>q=b5) A3 (ax A3 ⟨b5,0,none⟩ w'):=(af.refl _ _).ax _ (.inl rfl);have o1:w'.oneCell'=true:=aI O3.sl.aq;rw[ae];simp-implicitDefEqProofs only[go_sem,zS,↓reduceIte,Za,Zb,Zc,reduceCtorEq,zU,zV,Zf,Zg,Zh,Zi,Zd,Ze,zF,f5,t5];refine⟨o1,?_⟩;rw[ae];simp-implicitDefEqProofs only[go_sem,zS,↓reduceIte,Za,Zb,Zc,reduceCtorEq,zU,zV,Zf,Zg,Zh,Zi,Zd,Ze,zF];refine hK _ _ w' Hj ?_ o3 (((K1.trans K9).any.trans (K3.mono fun q _ h=>.inr h)).trans (K5.mono fun q _ h=>.inl h));rw[rD];exact O3.ag K5 fun q hq e=>by have:=o3 q hq;omega
 ·have d:(dY F el st (step:Int) (u:Int)==1)=false:=by simpa using h
  rw[if_neg h]at hK;simp-implicitDefEqProofs only[go_sem,zS,↓reduceIte,Za,Zb,Zc,reduceCtorEq,zU,zV,Zf,Zg,Zh,Zi,Zd,Ze,zF,d];exact hK _ _ w (K1.bl B5 (by simp)) (O.ag K1 (by simp)) ho K1.any
structure XC (P:Program) (ι:aC):Prop where
 ask:jW P ι (ι.f 386)
 all:dy P (ι.f 137) (ι.f 136)
 a1:bB P (ι.f 136)=true
 aY:iu P (ι.f 136) (eP ι) eQ 2
 tz:gW P ι (ι.f 126)
def oO (P:Program) (ι:aC) (k:FuncId):Prop:=∀(F:dz) (el:List (Nat->Bool)) (st:List Int) (rb step:Nat) (H:Hp),aU ι H->fJ H rb F el st->CO F=true->st.length=el.length->step<st.length->bP (aZ F el)->(∀i u,i<st.length->bS (el.getD i fun _=>false) u=true->jV (aZ F el) (st.set i u))→
 ak P k #[.pointer (some ⟨rb,0,none⟩),.int .i64 (step:Int)] H fun r H'=>aM H' r (iN (lV F el st step 4096))/\(∀q,aV r q->H.size<=q)/\af (fun _=>False) H H'
theorem Pw {k:FuncId} (hk:dx P k (DD ι) DE 2 41) (c:XC P ι):oO P ι k:=by
 intro F el st rb step H hT hR hok hsl hst hG hB;have Pr:=hR;obtain⟨s,b,d,a,m,ev,sv,vs,B,hF,he,hel,Vp,hes,hsv⟩:=hR;have hn:el.length<=10:=hG.n;have lsv:aO sv=st.length:=by rw[hsv.len,aA]
 refine qI fun Q hQ=>?_;refine dk hk (args:=[_,_]) (by simp) ?_;unfold DD DE kB kF kC kD kI kN kR kT kU kV kd kg kY kZ;simp-implicitDefEqProofs only[go_sem,zS,↓reduceIte,Za,Zb,Zc,reduceCtorEq,zU,zV,Zf,Zg,Zh,Zi,Zd,Ze,zF];refine al fun H1 b2 e1 z1 B1 K1=>?_;have cf:Bl H1 b2 [.pointer (some ⟨rb,0,none⟩)]:=B1;simp-implicitDefEqProofs only[go_sem,zS,↓reduceIte,Za,Zb,Zc,reduceCtorEq,zU,zV,Zf,Zg,Zh,Zi,Zd,Ze,zF];refine al fun H2 b3 e2 z2 B2 K2=>?_;have jc:Bl H2 b3 [.int .i64 (step:Int)]:=B2;have fY:=K2.bl cf (by simp);have cG:=K1.trans K2;have BR:=cG.bl B (by simp);have c2:cell H2 ⟨b2,0,none⟩=some (.pointer (some ⟨rb,0,none⟩)):=by rw[fY.cell];rfl
 have c3:cell H2 ⟨b3,0,none⟩=some (.int .i64 (step:Int)):=by rw[jc.cell];rfl
 have c6:cell H2 ⟨rb,6,none⟩=some sv:=by rw[BR.cell];rfl
 have d1:decide ((step:Int)<0)=false:=decide_eq_false (by omega);have d2:decide ((step:Int)≥(st.length:Int))=false:=decide_eq_false (by omega);simp-implicitDefEqProofs only[go_sem,zS,↓reduceIte,Za,Zb,Zc,reduceCtorEq,zU,zV,Zf,Zg,Zh,Zi,Zd,Ze,zF,c2,c3,c6,d1,d2,hsv.aq,lsv];refine al fun H3 b5 e3 z3 B3 K3=>?_;have jv:Bl H3 b5 [.slice none 0 0]:=B3;have ew:=cG.trans K3;have gC:=K3.bl fY (by simp);have nX:=K3.bl jc (by simp);have BR3:=ew.bl B (by simp);have he3:=he.ag ew (by simp);have c2:cell H3 ⟨b2,0,none⟩=some (.pointer (some ⟨rb,0,none⟩)):=by rw[gC.cell];rfl
 have c3:cell H3 ⟨b3,0,none⟩=some (.int .i64 (step:Int)):=by rw[nX.cell];rfl
 have c5:cell H3 ⟨rb,5,none⟩=some ev:=by rw[BR3.cell];rfl
 obtain⟨sb,so,sc,e,hld⟩:=he3.ld1 (i:=step) (by omega);have hS0:=hes step (by omega);have hS:=(hes step (by omega)).ai ew;generalize vs.getD step undef=wv at*;simp-implicitDefEqProofs only[go_sem,zS,↓reduceIte,Za,Zb,Zc,reduceCtorEq,zU,zV,Zf,Zg,Zh,Zi,Zd,Ze,zF,c2,c3,c5,e,aj,hel,hld,aB];refine⟨by omega,?_⟩;refine(c.all wv H3).mono ?_;rintro r H4 ⟨rfl,Bs,K4,z4⟩;rw[ae];have pD:=ew.trans K4;obtain⟨u,W0,hu,hV⟩:=hS
 cases hu
 have hV4:=hV.ag K4 (by simp);have B54:=K4.bl jv (by simp);have pt:=K4.bl gC (by simp);have zd:=K4.bl nX (by simp);have s1:=K1.size;have s2:=K2.size;have s3:=K3.size;have s4:=K4.size;have Xc:=jv.lt;have ab9:=cf.lt;have adq:=jc.lt;have hvo:∀q,aV wv q->q<H.size:=fun q hq=>aQ.bE hS0 (k:=q) hq;have bE:∀X,af (fun p=>p=b5) H4 X->af (fun _=>False) H X:=fun X K=>pD.trans' K fun p hp h=>by omega
 simp-implicitDefEqProofs only[go_sem,zS,↓reduceIte,Za,Zb,Zc,reduceCtorEq,zU,zV,Zf,Zg,Zh,Zi,Zd,Ze,zF];refine uE (fun p=>p=b5) (fun k X=>∃w,Bl X b5 [w]/\bY X w (iN (lV F el st step k))/\∀q,ay w q->H4.size+2<=q) (fun _ _=>False) (G:=fun X=>aU ι X/\Bl X H3.size [wv]/\dS X wv W0 (el.getD step fun _=>false)) (by simp-implicitDefEqProofs only[go_sem,zS,↓reduceIte,Za,Zb,Zc,reduceCtorEq,ae,zU,zV,Zf,Zg,Zh,Zi,Zd,Ze];rfl) c.a1 (iv c.aY c.tz) ?_ ?_ ?_ ?_ ?_ ?_ ?_ ?_
 ·rintro p rfl;omega
 ·rintro k X KX _;exact⟨hT.ag (bE X KX),KX.bl Bs (by omega),hV4.ag KX fun q hq h=>by have:=hvo q hq;omega⟩
 ·intro X KX gX;exact⟨_,KX.bl B54 (by simp),by simpa[lV,iN,iL]using bY.nil X,fun q hq=>hq.elim⟩
 ·rintro k X X2 gX KX ⟨w,j1,j2,j3⟩ KK;exact⟨w,KK.bl j1 (by omega),j2.ag KK fun q hq h=>by have:=j3 q hq;omega,j3⟩
 ·rintro e X X2 gX KX h KK;exact h
 ·rintro k X AL KX gX ⟨w,j1,j2,j3⟩;have hkl:k<(aJ (el.getD step fun _=>false)).length:=by simpa[bL]using AL
  obtain⟨x,hx⟩:∃x,x=(aJ (el.getD step fun _=>false))[k]:=⟨_,rfl⟩
  have hxv:(bL (el.getD step fun _=>false)).getD k undef=.int .i64 (x:Int):=by
   rw[List.getD_eq_getElem?_getD,List.getElem?_eq_getElem AL];simp[bL,hx]
  rw[hxv];have uK:lV F el st step (k+1)=if dY F el st (step:Int) (x:Int)=1 then lV F el st step k++[x]else lV F el st step k:=by
   unfold lV;rw[List.take_succ_eq_append_getElem hkl,List.filter_append,<-hx]
   by_cases h:dY F el st (step:Int) (x:Int)=1
   ·rw[if_pos h];simp[h]
   ·rw[if_neg h];simp[h]
  have uL:(lV F el st step k).length<=100000:=by
   unfold lV;refine Nat.le_trans (List.length_filter_le _ _) ?_;rw[List.length_take];have:=fA 4096 (el.getD step fun _=>false);have:=bO (el.getD step fun _=>false);omega
  have lh:=bE X KX;simp-implicitDefEqProofs only[go_sem,zS,↓reduceIte,Za,Zb,Zc,reduceCtorEq,zU,zV,Zf,Zg,Zh,Zi,Zd,Ze,zF];refine T9 c.ask (F:=F) (el:=el) (st:=st) (rb:=rb) (b2:=b2) (b3:=b3) (step:=step) (u:=x) (C:=H4.size+2) (l:=lV F el st step k) (by simp-implicitDefEqProofs only[go_sem,zS,↓reduceIte,Za,Zb,Zc,reduceCtorEq,ae,zU,zV,Zf,Zg,Zh,Zi,Zd,Ze]) (by simp-implicitDefEqProofs only[go_sem,zS,↓reduceIte,Za,Zb,Zc,reduceCtorEq,ae,zU,zV,Zf,Zg,Zh,Zi,Zd,Ze]) (by simp-implicitDefEqProofs only[go_sem,zS,↓reduceIte,Za,Zb,Zc,reduceCtorEq,ae,zU,zV,Zf,Zg,Zh,Zi,Zd,Ze]) (by simp-implicitDefEqProofs only[go_sem,zS,↓reduceIte,Za,Zb,Zc,reduceCtorEq,ae,zU,zV,Zf,Zg,Zh,Zi,Zd,Ze]) (KX.bl pt (by omega)) (KX.bl zd (by omega)) j1 j2 j3 (by omega) (by omega) uL (hT.ag lh) (Pr.ai lh) hok hsl hG hB fun f' A' w' q1 q2 q3 KK=>?_;simp-implicitDefEqProofs only[go_sem,zS,↓reduceIte,Za,Zb,Zc,reduceCtorEq,zU,zV,Zf,Zg,Zh,Zi,Zd,Ze,zF];exact⟨KK,w',q1,by rw[uK];exact q2,q3⟩
 ·rintro X KX gX hd ⟨w,j1,j2,j3⟩;have sd:(bL (el.getD step fun _=>false)).length=(aJ (el.getD step fun _=>false)).length:=by simp[bL]
  have iQ:lV F el st step (aJ (el.getD step fun _=>false)).length=lV F el st step 4096:=by
   unfold lV;rw[List.take_length,List.take_of_length_le];have:=fA 4096 (el.getD step fun _=>false);have:=bO (el.getD step fun _=>false);omega
  rw[sd,iQ]at j2;have c5:cell X ⟨b5,0,none⟩=some w:=by rw[j1.cell];rfl
  simp-implicitDefEqProofs only[go_sem,zS,↓reduceIte,Za,Zb,Zc,reduceCtorEq,zU,zV,Zf,Zg,Zh,Zi,Zd,Ze,zF,c5];refine⟨by simp,hd,fun A2 hs2 hk2=>?_⟩;have M:af (fun p=>p=H4.size) X A2:=⟨by omega,fun p _ h=>hk2 p (by simpa using h)⟩
  rw[hQ];exact⟨(j2.ag M fun q hq e=>by have:=j3 q hq;omega).sl,fun q hq=>by have:=j3 q (j2.aV hq);have:=pD.size;omega,(bE X KX).trans' M fun p hp h=>by omega⟩
 ·rintro e X KX gX hd h;exact h.elim
end Go.Mg
