/- Lemmas of ours. No conditions. -/
import Derived.Test.YteeemadonfcliaaGreatDoorMgGF
open Nat renaming reduceEqDiff→Za,reduceAdd→Zb,reduceMul→Zc,reduceLeDiff→Zd,reduceLT→Ze
open Int renaming reduceBEq→Zf,reduceBNe→Zg,reduceLE→Zh,reduceLT→Zi
set_option linter.all false
set_option maxRecDepth 100000
namespace Go.Mg
open Go Go.RowKit
def zY (ι:aJ):S:=
 kY [kC 2 (kZ)] (.seq (kY [kA 3 0,kV 4 (.m (.eqn .sl false (.t 3)))] (.ite (.v 4) (kY [kC 2 (kZ)] .ret) .skip)) (kY [kc 5 (.cj (ι.t 297) 2 0 []),kA 6 0,kc 7 (.app false (ι.t 297) 2 24 #[.string ⟨#[]⟩,.int .i64 0] (.t 5) (.t 6)),kB 2 7] .ret))
def zZ:List RV:=[.t 2]
def u3 (ι:aJ):S:=
 kY [kR 1 (ι.t 296) 0,kd 2 (.new (ι.t 296) #[kZ,kZ,kZ,kZ,kZ])] (.seq (.dr (kW 3 (.fa 0 (.v 1)) (kW 4 (.ld (.t 3)) (kW 6 (.fa 1 (.v 1)) (kW 7 (.ld (.t 6)) (kW 9 (.fa 2 (.v 1)) (kW 10 (.ld (.t 9)) (kW 12 (.fa 3 (.v 1)) (kW 13 (.ld (.t 12)) (kW 15 (.fa 4 (.v 1)) (kW 16 (.ld (.t 15)) (ka 5 (kg (ι.f 389) [.t 4]) (ka 8 (kg (ι.f 204) [.t 7]) (ka 11 (kg (ι.f 204) [.t 10]) (ka 14 (kg (ι.f 204) [.t 13]) (ka 17 (kg (ι.f 375) [.t 16]) (kW 18 (.m (.jA #[kZ,kZ,kZ,kZ,kZ] [(0,(1,.t 5)),(1,(1,.t 8)),(2,(1,.t 11)),(3,(1,.t 14)),(4,(1,.t 17))])) (kb (.stn 5 (.v 2) (.t 18)) .done .wnil)) .wnil) .wnil) .wnil) .wnil) .wnil)))))))))))) .ret)
def u4:List RV:=[.cn 2 5]
variable {P:Program} {ι:aJ} {k:FuncId}
theorem KM {α:Type} {enc:α->List Value} (hl:∀x,(enc x).length=2) (h1:∀x,∀v∈enc x,v.oneCell'=true) (hk:aq P k (zY ι) zZ 1):cP enc P k:=by
 intro l v H hv hn;refine ah hk (args:=[_]) (by simp) ?_;unfold zY zZ kA kB kC kV kc kY kZ;obtain⟨a,c,rfl,hc⟩:=hv.mk
 cases a with
 |none=>
  have h0:l=[]:=by
   rcases hv with⟨_,_,_,h⟩|⟨_,_,_,_,h,_⟩
   ·exact h
   ·cases h
  subst h0;simp-implicitDefEqProofs only[go_sem,zS,↓reduceIte,Za,Zb,Zc,reduceCtorEq,ae];exact⟨dG.nil _,fun k h=>h.elim,af.refl _ _⟩
 |some p=>
  simp-implicitDefEqProofs only[go_sem,zS,↓reduceIte,Za,Zb,Zc,reduceCtorEq];refine aF fun H1 b1 e1 z1 B1 K1=>?_;have s1:=K1.size;simp-implicitDefEqProofs only[go_sem,zS,↓reduceIte,Za,Zb,Zc,reduceCtorEq];have pg:dG enc 2 H1 (.slice (some ⟨b1,0,none⟩) 0 0) []:=dG.bl B1 rfl (by omega) (by omega) (by simp);refine sJ (l:=([]:List α)) (m:=l) H.size hl h1 pg (fun q hq=>by have hq:q=b1:=hq;omega) (by omega) (hv.aj K1) rfl (by omega) (by simp;omega) fun v3 H3 O3 own3 K3=>?_;rw[List.nil_append]at O3;simp-implicitDefEqProofs only[go_sem,zS,↓reduceIte,Za,Zb,Zc,reduceCtorEq,ae];exact⟨O3,own3,K1.lW K3 (Nat.le_refl _)⟩
def ju (P:Program) (k:FuncId):Prop:=∀(F:jn) (v:Value) (H:Hp),cC H v F->F.st.length<=1000->F.be.length<=1000->F.di.length<=1000->F.sa.length<=1000->F.mo.length<=1000->an P k #[v] H fun r H'=>(∃s b d a m,r=.agg #[s,b,d,a,m])/\cC H' r F/\af (fun _=>False) H H'
theorem GY (hk:aq P k (u3 ι) u4 1) (hS:cP gE P (ι.f 389)) (hP:cP pE P (ι.f 204)) (hM:cP eJ P (ι.f 375)):ju P k:=by
 intro F v H hv l1 l2 l3 l4 l5;obtain⟨s,b,d,a,m,ms,rfl,h1,h2,h3,h4,h5,h6⟩:=hv;have JN:=h6.len;refine ah hk (args:=[_]) (by simp) ?_;unfold u3 u4 kR kW ka kb kd kg kY kZ;simp-implicitDefEqProofs only[go_sem,zS,↓reduceIte,Za,Zb,Zc,reduceCtorEq,zU,zV,Zf,Zg,Zh,Zi,Zd,Ze,zF];refine ay fun H1 b1 e1 z1 B1 K1=>?_;have eB:Bl H1 b1 [s,b,d,a,m]:=B1;simp-implicitDefEqProofs only[go_sem,zS,↓reduceIte,Za,Zb,Zc,reduceCtorEq,zU,zV,Zf,Zg,Zh,Zi,Zd,Ze,zF];refine ay fun H2 b2 e2 z2 B2 K2=>?_;have vt:Bl H2 b2 [.slice none 0 0,.slice none 0 0,.slice none 0 0,.slice none 0 0,.slice none 0 0]:=B2;have fy:=K1.trans K2;have nO:=K2.bl eB (by simp);have k0:cell H2 ⟨b1,0,none⟩=some s:=by rw[nO.cell];rfl
 have k1:cell H2 ⟨b1,1,none⟩=some b:=by rw[nO.cell];rfl
 have k2:cell H2 ⟨b1,2,none⟩=some d:=by rw[nO.cell];rfl
 have k3:cell H2 ⟨b1,3,none⟩=some a:=by rw[nO.cell];rfl
 have k4:cell H2 ⟨b1,4,none⟩=some m:=by rw[nO.cell];rfl
 have hne:(b1=b2)=False:=eq_false (by have:=eB.lt;omega);have s1:=K1.size;have aaI:=vt.lt;simp-implicitDefEqProofs only[go_sem,zS,↓reduceIte,Za,Zb,Zc,reduceCtorEq,zU,zV,Zf,Zg,Zh,Zi,Zd,Ze,zF];refine bC (fun q=>q=b2) ?_;simp-implicitDefEqProofs only[go_sem,zS,↓reduceIte,Za,Zb,Zc,reduceCtorEq,zU,zV,Zf,Zg,Zh,Zi,Zd,Ze,zF,k0,k1,k2,k3,k4,hne];refine(hS F.st s H2 (h1.aj fy) (by omega)).mono ?_;rintro r1 X1 ⟨O1,o1,G1⟩;rw[aK];refine⟨G1.any,?_⟩;simp-implicitDefEqProofs only[go_sem,zS,↓reduceIte,Za,Zb,Zc,reduceCtorEq,zU,zV,Zf,Zg,Zh,Zi,Zd,Ze,zF];have SI:=fy.trans G1;refine(hP F.be b X1 (h2.aj SI) (by omega)).mono ?_;rintro r2 X2 ⟨O2,o2,G2⟩;rw[aK];refine⟨G2.any,?_⟩;simp-implicitDefEqProofs only[go_sem,zS,↓reduceIte,Za,Zb,Zc,reduceCtorEq,zU,zV,Zf,Zg,Zh,Zi,Zd,Ze,zF];have IG:=SI.trans G2;refine(hP F.di d X2 (h3.aj IG) (by omega)).mono ?_;rintro r3 X3 ⟨O3,o3,G3⟩;rw[aK];refine⟨G3.any,?_⟩;simp-implicitDefEqProofs only[go_sem,zS,↓reduceIte,Za,Zb,Zc,reduceCtorEq,zU,zV,Zf,Zg,Zh,Zi,Zd,Ze,zF];have Vl:=IG.trans G3;refine(hP F.sa a X3 (h4.aj Vl) (by omega)).mono ?_;rintro r4 X4 ⟨O4,o4,G4⟩;rw[aK];refine⟨G4.any,?_⟩;simp-implicitDefEqProofs only[go_sem,zS,↓reduceIte,Za,Zb,Zc,reduceCtorEq,zU,zV,Zf,Zg,Zh,Zi,Zd,Ze,zF];have KX4:=Vl.trans G4;refine(hM ms m X4 (h5.aj KX4) (by omega)).mono ?_;rintro r5 X5 ⟨O5,o5,G5⟩;rw[aK];refine⟨G5.any,?_⟩;have KX5:=KX4.trans G5;have z1:=G1.size;have z2:=G2.size;have z3:=G3.size;have z4:=G4.size;have p1:=(((O1.sl.aj G2).aj G3).aj G4).aj G5;have p2:=((O2.sl.aj G3).aj G4).aj G5;have p3:=(O3.sl.aj G4).aj G5;have p4:=O4.sl.aj G5;have p5:=O5.sl;have Mw:=((((G1.trans G2).trans G3).trans G4).trans G5).bl vt (by simp);have t:=Mw.bK (o:=0) (n:=5) (by simp);have w1:∀q,aU r1 q->¬q=b2:=fun q hq e=>by have:=o1 q (O1.aU hq);omega
 have w2:∀q,aU r2 q->¬q=b2:=fun q hq e=>by have:=o2 q (O2.aU hq);omega
 have w3:∀q,aU r3 q->¬q=b2:=fun q hq e=>by have:=o3 q (O3.aU hq);omega
 have w4:∀q,aU r4 q->¬q=b2:=fun q hq e=>by have:=o4 q (O4.aU hq);omega
 have w5:∀q,aU r5 q->¬q=b2:=fun q hq e=>by have:=o5 q (O5.aU hq);omega
 obtain⟨a1,n1,c1,rfl⟩:=O1.shape;obtain⟨a2,n2,c2,rfl⟩:=O2.shape;obtain⟨a3,n3,c3,rfl⟩:=O3.shape;obtain⟨a4,n4,c4,rfl⟩:=O4.shape;obtain⟨a5,n5,c5,rfl⟩:=O5.shape;have ha:bQ #[Value.slice a1 n1 c1,.slice a2 n2 c2,.slice a3 n3 c3,.slice a4 n4 c4,.slice a5 n5 c5]:=bE rfl;have K:af (fun q=>q=b2) X5 (aA X5 ⟨b2,0,none⟩ [.slice a1 n1 c1,.slice a2 n2 c2,.slice a3 n3 c3,.slice a4 n4 c4,.slice a5 n5 c5]):=(af.refl _ _).aA _ (.inl rfl);have B':Bl (aA X5 ⟨b2,0,none⟩ [.slice a1 n1 c1,.slice a2 n2 c2,.slice a3 n3 c3,.slice a4 n4 c4,.slice a5 n5 c5]) b2 [.slice a1 n1 c1,.slice a2 n2 c2,.slice a3 n3 c3,.slice a4 n4 c4,.slice a5 n5 c5]:=Mw.aA 0 [.slice a1 n1 c1,.slice a2 n2 c2,.slice a3 n3 c3,.slice a4 n4 c4,.slice a5 n5 c5];have KF:af (fun _=>False) H (aA X5 ⟨b2,0,none⟩ [.slice a1 n1 c1,.slice a2 n2 c2,.slice a3 n3 c3,.slice a4 n4 c4,.slice a5 n5 c5]):=KX5.trans' K fun q hq e=>by omega
 have fin:cC (aA X5 ⟨b2,0,none⟩ [.slice a1 n1 c1,.slice a2 n2 c2,.slice a3 n3 c3,.slice a4 n4 c4,.slice a5 n5 c5]) (.agg #[.slice a1 n1 c1,.slice a2 n2 c2,.slice a3 n3 c3,.slice a4 n4 c4,.slice a5 n5 c5]) F:=
  ⟨_,_,_,_,_,ms,rfl,p1.ag K w1,p2.ag K w2,p3.ag K w3,p4.ag K w4,p5.ag K w5,h6.aj KF⟩
 have l2:aI (aA X5 ⟨b2,0,none⟩ [.slice a1 n1 c1,.slice a2 n2 c2,.slice a3 n3 c3,.slice a4 n4 c4,.slice a5 n5 c5]) (.pointer (some ⟨b2,0,none⟩)) 5=some #[.slice a1 n1 c1,.slice a2 n2 c2,.slice a3 n3 c3,.slice a4 n4 c4,.slice a5 n5 c5]:=B'.aI 5 rfl;have hw:gQ (gQ (gQ (gQ (gQ #[Value.slice none 0 0,.slice none 0 0,.slice none 0 0,.slice none 0 0,.slice none 0 0] 0 [.slice a1 n1 c1]) 1 [.slice a2 n2 c2]) 2 [.slice a3 n3 c3]) 3 [.slice a4 n4 c4]) 4 [.slice a5 n5 c5]=#[.slice a1 n1 c1,.slice a2 n2 c2,.slice a3 n3 c3,.slice a4 n4 c4,.slice a5 n5 c5]:=rfl;simp-implicitDefEqProofs only[go_sem,zS,↓reduceIte,Za,Zb,Zc,reduceCtorEq,zU,zV,Zf,Zg,Zh,Zi,Zd,Ze,zF,t,hw];refine⟨ha,K,?_⟩;simp-implicitDefEqProofs only[go_sem,zS,↓reduceIte,Za,Zb,Zc,reduceCtorEq,zU,zV,Zf,Zg,Zh,Zi,Zd,Ze,zF,cU,cV,l2];exact⟨⟨_,_,_,_,_,rfl⟩,fin,KF⟩
end Go.Mg
namespace Go.Mg
open Go Go.RowKit
def xu (ι:aJ):T:=
 (kW 33 (.m (.jA #[kZ,kZ,kZ,kZ,kZ,kZ,kZ] [(0,(5,.t 26)),(5,(1,.t 28)),(6,(1,.t 32))])) (ka 34 (.box (ι.t 387) (.t 33)) (kX 8 (.mv (.t 34)) .done) .wnil))
def GZ (ι:aJ):S:=
 (.dr (kW 25 (.m (.ldn 5 (.v 2))) (kW 27 (.mv (.v 1)) (kW 29 (.fa 0 (.v 2)) (kW 30 (.ld (.t 29)) (kW 31 (.m (.lenl (.t 30))) (ka 26 (kg (ι.f 390) [.t 25]) (ka 28 (kg (ι.f 374) [.t 27]) (ka 32 (.nq (ι.t 26) 1 8 #[.int .i64 0] (.t 31) (.t 31)) (xu ι) .wnil) (ka 32 (.nq (ι.t 26) 1 8 #[.int .i64 0] (.t 31) (.t 31)) (ka 28 (kg (ι.f 374) [.t 27]) (xu ι) .wnil) .wnil)) (ka 32 (.nq (ι.t 26) 1 8 #[.int .i64 0] (.t 31) (.t 31)) (ka 26 (kg (ι.f 390) [.t 25]) (ka 28 (kg (ι.f 374) [.t 27]) (xu ι) .wnil) .wnil) .wnil))))))))
def qj (ι:aJ):S:=
 kY [kR 2 (ι.t 296) 0,kC 4 (.pointer .none),kC 5 (.int .i64 0)] (.seq (kY [kM 11 5 2,kU 12 (.m (.jA #[kZ] [])),kc 13 (kg (ι.f 307) [.t 11,.c (.int .i64 63),.t 12]),kB 6 13] (kY [kA 14 6,kV 15 (.cm .neq .i64 (.t 14) (.c (.int .i64 0)))] (.ite (.v 15) (kY [kA 16 6,kC 4 (.pointer .none),kB 5 16] .ret) .skip))) (.seq (kY [kA 17 1,kG 18 0 2,kD 19 18,kL 20 19,kc 21 (kg (ι.f 378) [.t 17,.t 20]),kB 7 21] (kY [kA 22 7,kV 23 (.cm .neq .i64 (.t 22) (.c (.int .i64 0)))] (.ite (.v 23) (kY [kA 24 7,kC 4 (.pointer .none),kB 5 24] .ret) .skip))) (.seq (GZ ι) (.seq (kY [kA 36 8,kA 37 8,kU 38 (.nil (.t 37)),kU 39 (.fa 6 (.t 38)),kD 40 39,kc 41 (kg (ι.f 377) [.t 36,.t 40]),kF 35 41,kQ 42 35 0,kQ 43 35 1,kF 9 42,kB 10 43] (kY [kA 44 10,kV 45 (.not (.t 44))] (.ite (.v 45) (kY [kC 4 (.pointer .none),kC 5 (.int .i64 12)] .ret) .skip))) (kY [kA 46 8,kB 4 46,kC 5 (.int .i64 0)] .ret)))))
def qk:List RV:=[.t 4,.t 5]
def StK (F:jn) (el:List (Nat->Bool)) (A:Hp) (f:Fr) (Q:Fr->Hp->Prop):Prop:=∀X rb,lK X rb F el (List.replicate el.length 0)->af (fun _=>False) A X->Q (bN f 8 (.pointer (some ⟨rb,0,none⟩))) X
variable {P:Program} {ι:aJ} {F:jn} {vs:List Value} {A:Hp} {f:Fr} {s b d a m:Value}
theorem Aa {el:List (Nat->Bool)} {X:Hp} {e:Env} {Q:Fr->Hp->Prop} {w z:Value} (hK:StK F el A f Q) (KA:af (fun _=>False) A X)
  (e1:look e 26=.agg #[s,b,d,a,m]) (e2:look e 28=w) (e3:look e 32=z) (hF:cC X (.agg #[s,b,d,a,m]) F) (hw:aG X w vs) (hz:aG X z (iL (List.replicate el.length 0))) (hl:vs.length=el.length) (hst:F.st.length=el.length) (hes:∀i<vs.length,aS X (.agg #[vs.getD i undef]) (el.getD i fun _=>false)):cK P (fun _=>False) (xu ι) e f X Q:=by
 obtain⟨wa,wc,rfl,-⟩:=hw.mk;obtain⟨za,zc,rfl,-⟩:=hz.mk;unfold xu kW kX ka kZ;have Kp:∀(T:TypeId) (y:Array Value),af (fun _=>False) X (X.push (.cells y T)):=fun T y=>(af.refl _ _).push _;simp-implicitDefEqProofs only[go_sem,zS,↓reduceIte,Za,Zb,Zc,reduceCtorEq,zU,zV,Zf,Zg,Zh,Zi,Zd,Ze,zF,e1,e2,e3];refine⟨(af.refl _ _).push _,hK _ X.size ?_ (KA.trans (Kp _ _))⟩;exact⟨s,b,d,a,m,_,_,vs,Bl.cW _ _ _,hF.aj (Kp _ _),hw.ag (Kp _ _) (by simp),hl,hst,fun i hi=>(hes i hi).aj (Kp _ _),hz.ag (Kp _ _) (by simp)⟩
theorem PU (hC:ju P (ι.f 390)) (hB:gK P (ι.f 374)) {el:List (Nat->Bool)} {b2:Nat} {ev:Value} {Qb:Ex->Fr->Hp->Prop}
  (f1:f 1=ev) (f2:f 2=.pointer (some ⟨b2,0,none⟩)) (B2:Bl A b2 [s,b,d,a,m]) (hF:cC A (.agg #[s,b,d,a,m]) F) (hev:aG A ev vs) (hl:vs.length=el.length) (hst:F.st.length=el.length) (hn:el.length<=1000) (hes:∀i<vs.length,aS A (.agg #[vs.getD i undef]) (el.getD i fun _=>false)) (hvs:∀x∈vs,ax x)
  (l2:F.be.length<=1000) (l3:F.di.length<=1000) (l4:F.sa.length<=1000) (l5:F.mo.length<=1000) (hK:StK F el A f (Qb .n)):vc P (GZ ι) Qb f A:=by
 unfold GZ kW ka kg;have c0:cell A ⟨b2,0,none⟩=some s:=by rw[B2.cell];rfl
 have ll:aI A (.pointer (some ⟨b2,0,none⟩)) 5=some #[s,b,d,a,m]:=B2.aI 5 rfl;have lS:ax s/\aP s=el.length:=by
  obtain⟨s',b',d',a',m',ms,e,h1,_⟩:=hF
  cases e
  exact⟨h1.ax,by rw[h1.len,hst]⟩
 have cp:∀X,af (fun _=>False) A X->an P (ι.f 390) #[.agg #[s,b,d,a,m]] X fun r X'=>(∃s b d a m,r=.agg #[s,b,d,a,m])/\cC X' r F/\af (fun _=>False) X X':=fun X K=>hC F _ X (hF.aj K) (by omega) l2 l3 l4 l5;have cb:∀X,af (fun _=>False) A X->an P (ι.f 374) #[ev] X fun r X'=>aG X' r vs/\af (fun _=>False) X X':=fun X K=>(hB vs ev X (hev.ag K (by simp)) hvs (by omega)).mono fun r X' ⟨O,o,K'⟩=>⟨O.sl,K'⟩
 have mk:∀(X:Hp) (T:TypeId),aG (X.push (.cells (rep #[.int .i64 0] el.length) T)) (.slice (some ⟨X.size,0,none⟩) el.length el.length) (iL (List.replicate el.length 0)):=fun X T=>by
  have B:=Bl.cW X (rep #[.int .i64 0] el.length) T;rw[cx,oF]at B;exact(bY.new (n:=el.length) (c:=el.length) B (by simp[ak]) rfl).sl
 have Kp:∀(X:Hp) (T:TypeId) (y:Array Value),af (fun _=>False) X (X.push (.cells y T)):=fun X T y=>(af.refl _ _).push _;refine bC (fun _=>False) ?_;simp-implicitDefEqProofs only[go_sem,zS,↓reduceIte,Za,Zb,Zc,reduceCtorEq,zU,zV,Zf,Zg,Zh,Zi,Zd,Ze,zF,f1,f2,c0,ll,lS.1,lS.2];have Vm:(0:Int)<=(el.length:Int)/\8*(el.length:Int)<=281474976710656/\(el.length:Int)<=(maxLen:Int):=⟨by omega,by omega,by unfold maxLen;omega⟩
 have Tu:(0:Int)<=(el.length:Int):=Vm.1;have Tv:8*(el.length:Int)<=281474976710656:=Vm.2.1;have Tw:(el.length:Int)<=(maxLen:Int):=Vm.2.2;refine⟨(cp A (af.refl _ _)).mono ?_,Vm,Kp _ _ _,(cp _ (Kp _ _ _)).mono ?_⟩
 ·rintro r X1 ⟨⟨s',b',d',a',m',rfl⟩,Vn,K1⟩;rw[aK];refine⟨K1,?_⟩;simp-implicitDefEqProofs only[go_sem,zS,↓reduceIte,Za,Zb,Zc,reduceCtorEq,zU,zV,Zf,Zg,Zh,Zi,Zd,Ze,zF,Tu,Tv,Tw];refine⟨(cb X1 K1).mono ?_,Kp _ _ _,(cb _ (K1.trans (Kp _ _ _))).mono ?_⟩
  ·rintro w X2 ⟨hw,K2⟩;rw[aK];refine⟨K2,?_⟩;simp-implicitDefEqProofs only[go_sem,zS,↓reduceIte,Za,Zb,Zc,reduceCtorEq,zU,zV,Zf,Zg,Zh,Zi,Zd,Ze,zF,Tu,Tv,Tw];refine⟨Kp _ _ _,?_⟩;have K:=(K1.trans K2).trans (Kp X2 (ι.t 26) (rep #[.int .i64 0] el.length));exact Aa hK K rfl rfl rfl (Vn.aj (K2.trans (Kp _ _ _))) (hw.ag (Kp _ _ _) (by simp)) (mk _ _) hl hst fun i hi=>(hes i hi).aj K
  ·rintro w X2 ⟨hw,K2⟩;rw[aK];refine⟨K2,?_⟩;have K:=(K1.trans (Kp X1 (ι.t 26) (rep #[.int .i64 0] el.length))).trans K2;simp-implicitDefEqProofs only[go_sem,zS,↓reduceIte,Za,Zb,Zc,reduceCtorEq,zU,zV,Zf,Zg,Zh,Zi,Zd,Ze,zF];exact Aa hK K rfl rfl rfl (Vn.aj ((Kp _ _ _).trans K2)) hw ((mk _ _).ag K2 (by simp)) hl hst fun i hi=>(hes i hi).aj K
 ·rintro r X1 ⟨⟨s',b',d',a',m',rfl⟩,Vn,K1⟩;rw[aK];refine⟨K1,?_⟩;simp-implicitDefEqProofs only[go_sem,zS,↓reduceIte,Za,Zb,Zc,reduceCtorEq,zU,zV,Zf,Zg,Zh,Zi,Zd,Ze,zF];refine(cb X1 ((Kp _ _ _).trans K1)).mono ?_;rintro w X2 ⟨hw,K2⟩;rw[aK];refine⟨K2,?_⟩;have K:=((Kp A (ι.t 26) (rep #[.int .i64 0] el.length)).trans K1).trans K2;simp-implicitDefEqProofs only[go_sem,zS,↓reduceIte,Za,Zb,Zc,reduceCtorEq,zU,zV,Zf,Zg,Zh,Zi,Zd,Ze,zF];exact Aa hK K rfl rfl rfl (Vn.aj K2) hw ((mk _ _).ag (K1.trans K2) (by simp)) hl hst fun i hi=>(hes i hi).aj K
def jZ (P:Program) (ι:aJ) (k:FuncId):Prop:=∀(F:jn) (el:List (Nat->Bool)) (vs:List Value) (v ev:Value) (H:Hp),br ι H->cC H v F->aG H ev vs->vs.length=el.length->el.length<=1000->(∀i<vs.length,aS H (.agg #[vs.getD i undef]) (el.getD i fun _=>false))→
  (fw F 63 (fun _=>false)=0->el.length=F.st.length->(∀i,i<el.length->¬qg (el.getD i fun _=>false))->cD (bV F el)/\xq (bV F el) (List.replicate el.length 0)/\F.be.length<=1000)→
  an P k #[v,ev] H fun r H'=>af (fun _=>False) H H'∧
    ((fw F 63 (fun _=>false)≠0/\r=.tuple #[.pointer none,.int .i64 (fw F 63 (fun _=>false))])∨
     (fw F 63 (fun _=>false)=0/\el.length≠F.st.length/\r=.tuple #[.pointer none,.int .i64 1])∨
     (fw F 63 (fun _=>false)=0/\el.length=F.st.length/\(∃i,i<el.length/\qg (el.getD i fun _=>false))/\r=.tuple #[.pointer none,.int .i64 2])∨
     (fw F 63 (fun _=>false)=0/\el.length=F.st.length/\(∀i,i<el.length->¬qg (el.getD i fun _=>false))∧
       ((dd (bV F el) (List.replicate el.length 0)=none/\r=.tuple #[.pointer none,.int .i64 12])∨
        ((dd (bV F el) (List.replicate el.length 0)).isSome=true/\∃rb,r=.tuple #[.pointer (some ⟨rb,0,none⟩),.int .i64 0]/\lK H' rb F el (List.replicate el.length 0)))))
structure Zs (P:Program) (ι:aJ):Prop where
 BR:pI P ι (ι.f 307)
 usr:qh P (ι.f 378)
 cpy:ju P (ι.f 390)
 cln:gK P (ι.f 374)
 pln:js P ι (ι.f 377)
theorem DB {k:FuncId} (hk:aq P k (qj ι) qk 2) (c:Zs P ι):jZ P ι k:=by
  intro F el vs v ev H hT hF hev hl vu hes hgood;have hF0:=hF;obtain⟨s,b,d,a,m,ms,rfl,h1,h2,h3,h4,h5,h6⟩:=hF;have hvs:∀x∈vs,ax x:=fun x hx=>by
    obtain⟨i,hi,rfl⟩:=List.getElem_of_mem hx;obtain⟨u,W,e,hV⟩:=hes i hi;rw[List.getD_eq_getElem?_getD,List.getElem?_eq_getElem hi,Option.getD_some]at e
    cases e
    exact hV.sl.ax
  obtain⟨Q,hQ⟩:∃Q:Value->Hp->Prop,Q=fun r H'=>af (fun _=>False) H H'∧
    ((fw F 63 (fun _=>false)≠0/\r=.tuple #[.pointer none,.int .i64 (fw F 63 (fun _=>false))])∨
     (fw F 63 (fun _=>false)=0/\el.length≠F.st.length/\r=.tuple #[.pointer none,.int .i64 1])∨
     (fw F 63 (fun _=>false)=0/\el.length=F.st.length/\(∃i,i<el.length/\qg (el.getD i fun _=>false))/\r=.tuple #[.pointer none,.int .i64 2])∨
     (fw F 63 (fun _=>false)=0/\el.length=F.st.length/\(∀i,i<el.length->¬qg (el.getD i fun _=>false))∧
       ((dd (bV F el) (List.replicate el.length 0)=none/\r=.tuple #[.pointer none,.int .i64 12])∨
        ((dd (bV F el) (List.replicate el.length 0)).isSome=true/\∃rb,r=.tuple #[.pointer (some ⟨rb,0,none⟩),.int .i64 0]/\lK H' rb F el (List.replicate el.length 0))))):=⟨_,rfl⟩
  rw[<-hQ];refine ah hk (args:=[_,_]) (by simp) ?_;unfold qj qk kA kB kF kC kD kG kL kM kQ kR kU kV kc kg kY kZ;simp-implicitDefEqProofs only[go_sem,zS,↓reduceIte,Za,Zb,Zc,reduceCtorEq,zU,zV,Zf,Zg,Zh,Zi,Zd,Ze,zF];refine ay fun H1 b2 e1 z1 B1 K1=>?_;have eB:Bl H1 b2 [s,b,d,a,m]:=B1;have l5:aI H1 (.pointer (some ⟨b2,0,none⟩)) 5=some #[s,b,d,a,m]:=eB.aI 5 rfl;simp-implicitDefEqProofs only[go_sem,zS,↓reduceIte,Za,Zb,Zc,reduceCtorEq,zU,zV,Zf,Zg,Zh,Zi,Zd,Ze,zF,l5];refine(c.BR F _ _ 63 (fun _=>false) H1 (hT.ag K1) (hF0.aj K1) (aS.empty _ _ _)).mono ?_;rintro r H2 ⟨rfl,K2⟩;have gz:=K1.trans K2;rw[ae]
  by_cases x1:fw F 63 (fun _=>false)=0
  case neg=>
    have q1:(fw F 63 (fun _=>false)!=0)=true:=bne_iff_ne.2 x1;simp-implicitDefEqProofs only[go_sem,zS,↓reduceIte,Za,Zb,Zc,reduceCtorEq,zU,zV,Zf,Zg,Zh,Zi,Zd,Ze,zF,q1];rw[hQ];exact⟨gz,.inl ⟨x1,rfl⟩⟩
  have q1:(fw F 63 (fun _=>false)!=0)=false:=by rw[x1];rfl
  have B2:=K2.bl eB (by simp);have c0:cell H2 ⟨b2,0,none⟩=some s:=by rw[B2.cell];rfl
  have ls:aP s=F.st.length:=h1.len;simp-implicitDefEqProofs only[go_sem,zS,↓reduceIte,Za,Zb,Zc,reduceCtorEq,zU,zV,Zf,Zg,Zh,Zi,Zd,Ze,zF,q1,c0,h1.ax,ls];refine(c.usr el vs ev (F.st.length:Int) H2 (hev.ag gz (by simp)) hl vu fun i hi=>(hes i hi).aj gz).mono ?_;rintro r H3 ⟨e,rfl,K3,Tx⟩;have mf:=gz.trans K3;rw[ae];rcases Tx with⟨hne,rfl⟩|⟨heq,⟨rfl,nz⟩|⟨rfl,hok⟩⟩
  · have q2:((1:Int)!=0)=true:=rfl;simp-implicitDefEqProofs only[go_sem,zS,↓reduceIte,Za,Zb,Zc,reduceCtorEq,zU,zV,Zf,Zg,Zh,Zi,Zd,Ze,zF,q2];rw[hQ];exact⟨mf,.inr (.inl ⟨x1,by omega,rfl⟩)⟩
  · have q2:((2:Int)!=0)=true:=rfl;simp-implicitDefEqProofs only[go_sem,zS,↓reduceIte,Za,Zb,Zc,reduceCtorEq,zU,zV,Zf,Zg,Zh,Zi,Zd,Ze,zF,q2];rw[hQ];exact⟨mf,.inr (.inr (.inl ⟨x1,by omega,nz,rfl⟩))⟩
  have KO:el.length=F.st.length:=by omega
  obtain⟨hG,hB,hbe⟩:=hgood x1 KO hok;have q2:((0:Int)!=0)=false:=rfl;have g1:F.di.length<=20:=hG.dl;have g2:F.sa.length<=20:=hG.sl;have g3:F.mo.length<=20:=hG.ml;simp-implicitDefEqProofs only[go_sem,zS,↓reduceIte,Za,Zb,Zc,reduceCtorEq,zU,zV,Zf,Zg,Zh,Zi,Zd,Ze,zF,q2];refine PU c.cpy c.cln (F:=F) (el:=el) (vs:=vs) (b2:=b2) (ev:=ev) (by simp-implicitDefEqProofs only[go_sem,zS,↓reduceIte,Za,Zb,Zc,reduceCtorEq,ae,zU,zV,Zf,Zg,Zh,Zi,Zd,Ze]) (by simp-implicitDefEqProofs only[go_sem,zS,↓reduceIte,Za,Zb,Zc,reduceCtorEq,ae,zU,zV,Zf,Zg,Zh,Zi,Zd,Ze]) (K3.bl B2 (by simp)) (hF0.aj mf) (hev.ag mf (by simp)) hl KO.symm vu (fun i hi=>(hes i hi).aj mf) hvs hbe (by omega) (by omega) (by omega) fun X rb hR KX=>?_;obtain⟨sv,c6,hsv⟩:=hR.MW;have ui:=mf.trans KX;simp-implicitDefEqProofs only[go_sem,zS,↓reduceIte,Za,Zb,Zc,reduceCtorEq,zU,zV,Zf,Zg,Zh,Zi,Zd,Ze,zF,c6];refine(c.pln F el _ _ rb sv X (hT.ag ui) hR hsv hG hB).mono ?_;rintro r X1 ⟨y,rfl,K4,-⟩;rw[ae]
  cases hso:(dd (bV F el) (List.replicate el.length 0)).isSome with
  |false=>
    simp-implicitDefEqProofs only[go_sem,zS,↓reduceIte,Za,Zb,Zc,reduceCtorEq,zU,zV,Zf,Zg,Zh,Zi,Zd,Ze,zF,Bool.not_false];rw[hQ];exact⟨ui.trans K4,.inr (.inr (.inr ⟨x1,KO,hok,.inl ⟨Option.isNone_iff_eq_none.1 (by rw[<-Option.not_isSome,hso];rfl),rfl⟩⟩))⟩
  |true=>
    simp-implicitDefEqProofs only[go_sem,zS,↓reduceIte,Za,Zb,Zc,reduceCtorEq,zU,zV,Zf,Zg,Zh,Zi,Zd,Ze,zF,Bool.not_true];rw[hQ];exact⟨ui.trans K4,.inr (.inr (.inr ⟨x1,KO,hok,.inr ⟨hso,rb,rfl,hR.aj K4⟩⟩))⟩
end Go.Mg
namespace Go.Mg
open Go Go.RowKit
end Go.Mg
