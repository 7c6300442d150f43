/- Several texts of ours in one. No conditions. -/
import Derived.Test.YtoclemmcphgikaaGreatDoorMgGF
open Nat renaming reduceEqDiff→Za,reduceAdd→Zb,reduceMul→Zc,reduceLeDiff→Zd,reduceLT→Ze
open Int renaming reduceBEq→Zf,reduceBNe→Zg,reduceLE→Zh,reduceLT→Zi
namespace Go.Mg
open Go Go.RowKit
set_option linter.all false
set_option maxRecDepth 100000
def c_clnT (ι:Ids):S:=
 kY [kC 2 (kZ)] (.seq (kY [kA 3 0,kV 4 (.m (.eqn .sl false (.t 3)))] (.ite (.v 4) (kY [kC 2 (kZ)] .ret) .skip)) (kY [.e (.t 5) (.bldF (ι.t 297) 2 0 []),kA 6 0,.e (.t 7) (.app false (ι.t 297) 2 24 #[.string ⟨#[]⟩,.int .i64 0] (.t 5) (.t 6)),kB 2 7] .ret))
def r_clnT:List RV:=[.t 2]
def c_ecopy (ι:Ids):S:=
 kY [kR 1 (ι.t 296) 0,.e (.v 2) (.new (ι.t 296) #[kZ,kZ,kZ,kZ,kZ])] (.seq (.dr (kW 3 (.fa 0 (.v 1)) (kW 4 (.ld (.t 3)) (kW 6 (.fa 1 (.v 1)) (kW 7 (.ld (.t 6)) (kW 9 (.fa 2 (.v 1)) (kW 10 (.ld (.t 9)) (kW 12 (.fa 3 (.v 1)) (kW 13 (.ld (.t 12)) (kW 15 (.fa 4 (.v 1)) (kW 16 (.ld (.t 15)) (.wcons (.t 5) .none (.call (ι.f 389) [.t 4]) (.wcons (.t 8) .none (.call (ι.f 204) [.t 7]) (.wcons (.t 11) .none (.call (ι.f 204) [.t 10]) (.wcons (.t 14) .none (.call (ι.f 204) [.t 13]) (.wcons (.t 17) .none (.call (ι.f 375) [.t 16]) (kW 18 (.m (.bld #[kZ,kZ,kZ,kZ,kZ] [(0,(1,.t 5)),(1,(1,.t 8)),(2,(1,.t 11)),(3,(1,.t 14)),(4,(1,.t 17))])) (.wcons .no .none (.stn 5 (.v 2) (.t 18)) .done .wnil)) .wnil) .wnil) .wnil) .wnil) .wnil)))))))))))) .ret)
def r_ecopy:List RV:=[.cn 2 5]
variable {P:Program} {ι:Ids} {k:FuncId}
theorem clnT_ok {α:Type} {enc:α->List Value} (hl:∀x,(enc x).length=2) (h1:∀x,∀v∈enc x,v.oneCell'=true) (hk:FnIs P k (c_clnT ι) r_clnT 1):ClnSpec enc P k:=by
 intro l v H hv hn
 refine calls_of_vc hk (args:=[_]) (by simp) ?_
 unfold c_clnT r_clnT kA kB kC kV kY kZ
 obtain⟨a,c,rfl,hc⟩:=hv.mk
 cases a with
 |none=>
  have h0:l=[]:=by
   rcases hv with⟨_,_,_,h⟩|⟨_,_,_,_,h,_⟩
   ·exact h
   ·cases h
  subst h0
  simp only[go_sem,zS,↓reduceIte,Za,Zb,Zc,reduceCtorEq,kont_eq]
  exact⟨OwE.nil _,fun k h=>h.elim,Keep.refl _ _⟩
 |some p=>
  simp only[go_sem,zS,↓reduceIte,Za,Zb,Zc,reduceCtorEq]
  refine kont_news fun H1 b1 e1 z1 B1 K1=>?_
  have s1:=K1.size
  simp only[go_sem,zS,↓reduceIte,Za,Zb,Zc,reduceCtorEq]
  have hs0:OwE enc 2 H1 (.slice (some ⟨b1,0,none⟩) 0 0) []:=OwE.bl B1 rfl (by omega) (by omega) (by simp)
  refine app_EN (l:=([]:List α)) (m:=l) H.size hl h1 hs0 (fun q hq=>by have hq:q=b1:=hq;omega) (by omega) (hv.keep0 K1) rfl (by omega) (by simp;omega) fun v3 H3 O3 own3 K3=>?_
  rw[List.nil_append]at O3
  simp only[go_sem,zS,↓reduceIte,Za,Zb,Zc,reduceCtorEq,kont_eq]
  exact⟨O3,own3,K1.at_old K3 (Nat.le_refl _)⟩
def ECopySpec (P:Program) (k:FuncId):Prop:=∀(F:FlN) (v:Value) (H:Hp),ProFl H v F->F.st.length<=1000->F.be.length<=1000->F.di.length<=1000->F.sa.length<=1000->F.mo.length<=1000->CallsM P k #[v] H fun r H'=>(∃s b d a m,r=.agg #[s,b,d,a,m])/\ProFl H' r F/\Keep (fun _=>False) H H'
theorem ecopy_ok (hk:FnIs P k (c_ecopy ι) r_ecopy 1) (hS:ClnSpec encS P (ι.f 389)) (hP:ClnSpec pE P (ι.f 204)) (hM:ClnSpec encV P (ι.f 375)):ECopySpec P k:=by
 intro F v H hv l1 l2 l3 l4 l5
 obtain⟨s,b,d,a,m,ms,rfl,h1,h2,h3,h4,h5,h6⟩:=hv
 have hml:=h6.len
 refine calls_of_vc hk (args:=[_]) (by simp) ?_
 unfold c_ecopy r_ecopy kR kW kY kZ
 simp-implicitDefEqProofs only[go_sem,↓reduceIte,Za,Zb,Zc,reduceCtorEq,Zf,Zg,Zh,Zi,Zd,Ze]
 refine kont_new fun H1 b1 e1 z1 B1 K1=>?_
 have B1':Bl H1 b1 [s,b,d,a,m]:=B1
 simp-implicitDefEqProofs only[go_sem,↓reduceIte,Za,Zb,Zc,reduceCtorEq,Zf,Zg,Zh,Zi,Zd,Ze]
 refine kont_new fun H2 b2 e2 z2 B2 K2=>?_
 have B2':Bl H2 b2 [.slice none 0 0,.slice none 0 0,.slice none 0 0,.slice none 0 0,.slice none 0 0]:=B2
 have K02:=K1.trans K2
 have B12:=K2.bl B1' (by simp)
 have k0:cell H2 ⟨b1,0,none⟩=some s:=by rw[B12.cell];rfl
 have k1:cell H2 ⟨b1,1,none⟩=some b:=by rw[B12.cell];rfl
 have k2:cell H2 ⟨b1,2,none⟩=some d:=by rw[B12.cell];rfl
 have k3:cell H2 ⟨b1,3,none⟩=some a:=by rw[B12.cell];rfl
 have k4:cell H2 ⟨b1,4,none⟩=some m:=by rw[B12.cell];rfl
 have hne:(b1=b2)=False:=eq_false (by have:=B1'.lt;omega)
 have s1:=K1.size
 have b2lt:=B2'.lt
 simp-implicitDefEqProofs only[go_sem,↓reduceIte,Za,Zb,Zc,reduceCtorEq,Zf,Zg,Zh,Zi,Zd,Ze]
 refine vc_drk (fun q=>q=b2) ?_
 simp-implicitDefEqProofs only[go_sem,↓reduceIte,Za,Zb,Zc,reduceCtorEq,Zf,Zg,Zh,Zi,Zd,Ze,k0,k1,k2,k3,k4,hne]
 refine(hS F.st s H2 (h1.keep0 K02) (by omega)).mono ?_
 rintro r1 X1 ⟨O1,o1,G1⟩
 rw[kontK_eq]
 refine⟨G1.any,?_⟩
 simp-implicitDefEqProofs only[go_sem,↓reduceIte,Za,Zb,Zc,reduceCtorEq,Zf,Zg,Zh,Zi,Zd,Ze]
 have KX1:=K02.trans G1
 refine(hP F.be b X1 (h2.keep0 KX1) (by omega)).mono ?_
 rintro r2 X2 ⟨O2,o2,G2⟩
 rw[kontK_eq]
 refine⟨G2.any,?_⟩
 simp-implicitDefEqProofs only[go_sem,↓reduceIte,Za,Zb,Zc,reduceCtorEq,Zf,Zg,Zh,Zi,Zd,Ze]
 have KX2:=KX1.trans G2
 refine(hP F.di d X2 (h3.keep0 KX2) (by omega)).mono ?_
 rintro r3 X3 ⟨O3,o3,G3⟩
 rw[kontK_eq]
 refine⟨G3.any,?_⟩
 simp-implicitDefEqProofs only[go_sem,↓reduceIte,Za,Zb,Zc,reduceCtorEq,Zf,Zg,Zh,Zi,Zd,Ze]
 have KX3:=KX2.trans G3
 refine(hP F.sa a X3 (h4.keep0 KX3) (by omega)).mono ?_
 rintro r4 X4 ⟨O4,o4,G4⟩
 rw[kontK_eq]
 refine⟨G4.any,?_⟩
 simp-implicitDefEqProofs only[go_sem,↓reduceIte,Za,Zb,Zc,reduceCtorEq,Zf,Zg,Zh,Zi,Zd,Ze]
 have KX4:=KX3.trans G4
 refine(hM ms m X4 (h5.keep0 KX4) (by omega)).mono ?_
 rintro r5 X5 ⟨O5,o5,G5⟩
 rw[kontK_eq]
 refine⟨G5.any,?_⟩
 have KX5:=KX4.trans G5
 have z1:=G1.size
 have z2:=G2.size
 have z3:=G3.size
 have z4:=G4.size
 have p1:=(((O1.sl.keep0 G2).keep0 G3).keep0 G4).keep0 G5
 have p2:=((O2.sl.keep0 G3).keep0 G4).keep0 G5
 have p3:=(O3.sl.keep0 G4).keep0 G5
 have p4:=O4.sl.keep0 G5
 have p5:=O5.sl
 have B25:=((((G1.trans G2).trans G3).trans G4).trans G5).bl B2' (by simp)
 have t:=B25.okNA (o:=0) (n:=5) (by simp)
 have w1:∀q,slB r1 q->¬q=b2:=fun q hq e=>by have:=o1 q (O1.slB hq);omega
 have w2:∀q,slB r2 q->¬q=b2:=fun q hq e=>by have:=o2 q (O2.slB hq);omega
 have w3:∀q,slB r3 q->¬q=b2:=fun q hq e=>by have:=o3 q (O3.slB hq);omega
 have w4:∀q,slB r4 q->¬q=b2:=fun q hq e=>by have:=o4 q (O4.slB hq);omega
 have w5:∀q,slB r5 q->¬q=b2:=fun q hq e=>by have:=o5 q (O5.slB hq);omega
 obtain⟨a1,n1,c1,rfl⟩:=O1.shape
 obtain⟨a2,n2,c2,rfl⟩:=O2.shape
 obtain⟨a3,n3,c3,rfl⟩:=O3.shape
 obtain⟨a4,n4,c4,rfl⟩:=O4.shape
 obtain⟨a5,n5,c5,rfl⟩:=O5.shape
 have ha:all1 #[Value.slice a1 n1 c1,.slice a2 n2 c2,.slice a3 n3 c3,.slice a4 n4 c4,.slice a5 n5 c5]:=all1_of rfl
 have K:Keep (fun q=>q=b2) X5 (stNA X5 ⟨b2,0,none⟩ [.slice a1 n1 c1,.slice a2 n2 c2,.slice a3 n3 c3,.slice a4 n4 c4,.slice a5 n5 c5]):=(Keep.refl _ _).stNA _ (.inl rfl)
 have B':Bl (stNA X5 ⟨b2,0,none⟩ [.slice a1 n1 c1,.slice a2 n2 c2,.slice a3 n3 c3,.slice a4 n4 c4,.slice a5 n5 c5]) b2 [.slice a1 n1 c1,.slice a2 n2 c2,.slice a3 n3 c3,.slice a4 n4 c4,.slice a5 n5 c5]:=B25.stNA 0 [.slice a1 n1 c1,.slice a2 n2 c2,.slice a3 n3 c3,.slice a4 n4 c4,.slice a5 n5 c5]
 have KF:Keep (fun _=>False) H (stNA X5 ⟨b2,0,none⟩ [.slice a1 n1 c1,.slice a2 n2 c2,.slice a3 n3 c3,.slice a4 n4 c4,.slice a5 n5 c5]):=KX5.trans' K fun q hq e=>by omega
 have fin:ProFl (stNA X5 ⟨b2,0,none⟩ [.slice a1 n1 c1,.slice a2 n2 c2,.slice a3 n3 c3,.slice a4 n4 c4,.slice a5 n5 c5]) (.agg #[.slice a1 n1 c1,.slice a2 n2 c2,.slice a3 n3 c3,.slice a4 n4 c4,.slice a5 n5 c5]) F:=
  ⟨_,_,_,_,_,ms,rfl,p1.keep K w1,p2.keep K w2,p3.keep K w3,p4.keep K w4,p5.keep K w5,h6.keep0 KF⟩
 have l2:ldNO (stNA X5 ⟨b2,0,none⟩ [.slice a1 n1 c1,.slice a2 n2 c2,.slice a3 n3 c3,.slice a4 n4 c4,.slice a5 n5 c5]) (.pointer (some ⟨b2,0,none⟩)) 5=some #[.slice a1 n1 c1,.slice a2 n2 c2,.slice a3 n3 c3,.slice a4 n4 c4,.slice a5 n5 c5]:=B'.ldNO 5 rfl
 have hw:wrA (wrA (wrA (wrA (wrA #[Value.slice none 0 0,.slice none 0 0,.slice none 0 0,.slice none 0 0,.slice none 0 0] 0 [.slice a1 n1 c1]) 1 [.slice a2 n2 c2]) 2 [.slice a3 n3 c3]) 3 [.slice a4 n4 c4]) 4 [.slice a5 n5 c5]=#[.slice a1 n1 c1,.slice a2 n2 c2,.slice a3 n3 c3,.slice a4 n4 c4,.slice a5 n5 c5]:=rfl
 simp-implicitDefEqProofs only[go_sem,↓reduceIte,Za,Zb,Zc,reduceCtorEq,Zf,Zg,Zh,Zi,Zd,Ze,t,hw]
 refine⟨ha,K,?_⟩
 simp-implicitDefEqProofs only[go_sem,↓reduceIte,Za,Zb,Zc,reduceCtorEq,Zf,Zg,Zh,Zi,Zd,Ze,resPre,resVal,l2]
 exact⟨⟨_,_,_,_,_,rfl⟩,fin,KF⟩
end Go.Mg
namespace Go.Mg
open Go Go.RowKit
set_option linter.all false
set_option maxRecDepth 100000
def c_stL (ι:Ids):T:=
 (kW 33 (.m (.bld #[kZ,kZ,kZ,kZ,kZ,kZ,kZ] [(0,(5,.t 26)),(5,(1,.t 28)),(6,(1,.t 32))])) (.wcons (.t 34) .none (.box (ι.t 387) (.t 33)) (kX 8 (.mv (.t 34)) .done) .wnil))
def c_stR (ι:Ids):S:=
 (.dr (kW 25 (.m (.ldn 5 (.v 2))) (kW 27 (.mv (.v 1)) (kW 29 (.fa 0 (.v 2)) (kW 30 (.ld (.t 29)) (kW 31 (.m (.lenl (.t 30))) (.wcons (.t 26) .none (.call (ι.f 390) [.t 25]) (.wcons (.t 28) .none (.call (ι.f 374) [.t 27]) (.wcons (.t 32) .none (.mkS (ι.t 26) 1 8 #[.int .i64 0] (.t 31) (.t 31)) (c_stL ι) .wnil) (.wcons (.t 32) .none (.mkS (ι.t 26) 1 8 #[.int .i64 0] (.t 31) (.t 31)) (.wcons (.t 28) .none (.call (ι.f 374) [.t 27]) (c_stL ι) .wnil) .wnil)) (.wcons (.t 32) .none (.mkS (ι.t 26) 1 8 #[.int .i64 0] (.t 31) (.t 31)) (.wcons (.t 26) .none (.call (ι.f 390) [.t 25]) (.wcons (.t 28) .none (.call (ι.f 374) [.t 27]) (c_stL ι) .wnil) .wnil) .wnil))))))))
def c_estart (ι:Ids):S:=
 kY [kR 2 (ι.t 296) 0,kC 4 (.pointer .none),kC 5 (.int .i64 0)] (.seq (kY [kM 11 5 2,kU 12 (.m (.bld #[kZ] [])),.e (.t 13) (.call (ι.f 307) [.t 11,.c (.int .i64 63),.t 12]),kB 6 13] (kY [kA 14 6,kV 15 (.cm .neq .i64 (.t 14) (.c (.int .i64 0)))] (.ite (.v 15) (kY [kA 16 6,kC 4 (.pointer .none),kB 5 16] .ret) .skip))) (.seq (kY [kA 17 1,kG 18 0 2,kD 19 18,kL 20 19,.e (.t 21) (.call (ι.f 378) [.t 17,.t 20]),kB 7 21] (kY [kA 22 7,kV 23 (.cm .neq .i64 (.t 22) (.c (.int .i64 0)))] (.ite (.v 23) (kY [kA 24 7,kC 4 (.pointer .none),kB 5 24] .ret) .skip))) (.seq (c_stR ι) (.seq (kY [kA 36 8,kA 37 8,kU 38 (.nil (.t 37)),kU 39 (.fa 6 (.t 38)),kD 40 39,.e (.t 41) (.call (ι.f 377) [.t 36,.t 40]),kF 35 41,kQ 42 35 0,kQ 43 35 1,kF 9 42,kB 10 43] (kY [kA 44 10,kV 45 (.not (.t 44))] (.ite (.v 45) (kY [kC 4 (.pointer .none),kC 5 (.int .i64 12)] .ret) .skip))) (kY [kA 46 8,kB 4 46,kC 5 (.int .i64 0)] .ret)))))
def r_estart:List RV:=[.t 4,.t 5]
def StK (F:FlN) (el:List (Nat->Bool)) (A:Hp) (f:Fr) (Q:Fr->Hp->Prop):Prop:=∀X rb,RunV X rb F el (List.replicate el.length 0)->Keep (fun _=>False) A X->Q (upd f 8 (.pointer (some ⟨rb,0,none⟩))) X
variable {P:Program} {ι:Ids} {F:FlN} {vs:List Value} {A:Hp} {f:Fr} {s b d a m:Value}
theorem stL_ok {el:List (Nat->Bool)} {X:Hp} {e:Env} {Q:Fr->Hp->Prop} {w z:Value} (hK:StK F el A f Q) (KA:Keep (fun _=>False) A X)
  (e1:look e 26=.agg #[s,b,d,a,m]) (e2:look e 28=w) (e3:look e 32=z) (hF:ProFl X (.agg #[s,b,d,a,m]) F) (hw:SlR X w vs) (hz:SlR X z (iL (List.replicate el.length 0))) (hl:vs.length=el.length) (hst:F.st.length=el.length) (hes:∀i<vs.length,SetM X (.agg #[vs.getD i undef]) (el.getD i fun _=>false)):tvk P (fun _=>False) (c_stL ι) e f X Q:=by
 obtain⟨wa,wc,rfl,-⟩:=hw.mk
 obtain⟨za,zc,rfl,-⟩:=hz.mk
 unfold c_stL kW kX kZ
 have Kp:∀(T:TypeId) (y:Array Value),Keep (fun _=>False) X (X.push (.cells y T)):=fun T y=>(Keep.refl _ _).push _
 simp-implicitDefEqProofs only[go_sem,↓reduceIte,Za,Zb,Zc,reduceCtorEq,Zf,Zg,Zh,Zi,Zd,Ze,e1,e2,e3]
 refine⟨(Keep.refl _ _).push _,hK _ X.size ?_ (KA.trans (Kp _ _))⟩
 exact⟨s,b,d,a,m,_,_,vs,Bl.new' _ _ _,hF.keep0 (Kp _ _),hw.keep (Kp _ _) (by simp),hl,hst,fun i hi=>(hes i hi).keep0 (Kp _ _),hz.keep (Kp _ _) (by simp)⟩
theorem stR_ok (hC:ECopySpec P (ι.f 390)) (hB:ClnVSpec P (ι.f 374)) {el:List (Nat->Bool)} {b2:Nat} {ev:Value} {Qb:Ex->Fr->Hp->Prop}
  (f1:f 1=ev) (f2:f 2=.pointer (some ⟨b2,0,none⟩)) (B2:Bl A b2 [s,b,d,a,m]) (hF:ProFl A (.agg #[s,b,d,a,m]) F) (hev:SlR A ev vs) (hl:vs.length=el.length) (hst:F.st.length=el.length) (hn:el.length<=1000) (hes:∀i<vs.length,SetM A (.agg #[vs.getD i undef]) (el.getD i fun _=>false)) (hvs:∀x∈vs,isSl x)
  (l2:F.be.length<=1000) (l3:F.di.length<=1000) (l4:F.sa.length<=1000) (l5:F.mo.length<=1000) (hK:StK F el A f (Qb .n)):vc P (c_stR ι) Qb f A:=by
 unfold c_stR kW
 have c0:cell A ⟨b2,0,none⟩=some s:=by rw[B2.cell];rfl
 have ll:ldNO A (.pointer (some ⟨b2,0,none⟩)) 5=some #[s,b,d,a,m]:=B2.ldNO 5 rfl
 have lS:isSl s/\lenV s=el.length:=by
  obtain⟨s',b',d',a',m',ms,e,h1,_⟩:=hF
  cases e
  exact⟨h1.isSl,by rw[h1.len,hst]⟩
 have cp:∀X,Keep (fun _=>False) A X->CallsM P (ι.f 390) #[.agg #[s,b,d,a,m]] X fun r X'=>(∃s b d a m,r=.agg #[s,b,d,a,m])/\ProFl X' r F/\Keep (fun _=>False) X X':=fun X K=>hC F _ X (hF.keep0 K) (by omega) l2 l3 l4 l5
 have cb:∀X,Keep (fun _=>False) A X->CallsM P (ι.f 374) #[ev] X fun r X'=>SlR X' r vs/\Keep (fun _=>False) X X':=fun X K=>(hB vs ev X (hev.keep K (by simp)) hvs (by omega)).mono fun r X' ⟨O,o,K'⟩=>⟨O.sl,K'⟩
 have mk:∀(X:Hp) (T:TypeId),SlR (X.push (.cells (rep #[.int .i64 0] el.length) T)) (.slice (some ⟨X.size,0,none⟩) el.length el.length) (iL (List.replicate el.length 0)):=fun X T=>by
  have B:=Bl.new' X (rep #[.int .i64 0] el.length) T
  rw[rep_one,iL_rep]at B
  exact(OwS.new (n:=el.length) (c:=el.length) B (by simp[iL_len]) rfl).sl
 have Kp:∀(X:Hp) (T:TypeId) (y:Array Value),Keep (fun _=>False) X (X.push (.cells y T)):=fun X T y=>(Keep.refl _ _).push _
 refine vc_drk (fun _=>False) ?_
 simp only[go_sem,Za,Zb,f1,f2,c0,ll,lS.1,lS.2]
 have bnd:(0:Int)<=(el.length:Int)/\8*(el.length:Int)<=281474976710656/\(el.length:Int)<=(maxLen:Int):=⟨by omega,by omega,by unfold maxLen;omega⟩
 have bnd0:(0:Int)<=(el.length:Int):=bnd.1
 have bnd1:8*(el.length:Int)<=281474976710656:=bnd.2.1
 have bnd2:(el.length:Int)<=(maxLen:Int):=bnd.2.2
 refine⟨(cp A (Keep.refl _ _)).mono ?_,bnd,Kp _ _ _,(cp _ (Kp _ _ _)).mono ?_⟩
 ·rintro r X1 ⟨⟨s',b',d',a',m',rfl⟩,hF1,K1⟩
  rw[kontK_eq]
  refine⟨K1,?_⟩
  simp only[go_sem,Za,Zb,bnd0,bnd1,bnd2]
  refine⟨(cb X1 K1).mono ?_,Kp _ _ _,(cb _ (K1.trans (Kp _ _ _))).mono ?_⟩
  ·rintro w X2 ⟨hw,K2⟩
   rw[kontK_eq]
   refine⟨K2,?_⟩
   simp only[go_sem,Za,Zb,bnd0,bnd1,bnd2]
   refine⟨Kp _ _ _,?_⟩
   have K:=(K1.trans K2).trans (Kp X2 (ι.t 26) (rep #[.int .i64 0] el.length))
   exact stL_ok hK K rfl rfl rfl (hF1.keep0 (K2.trans (Kp _ _ _))) (hw.keep (Kp _ _ _) (by simp)) (mk _ _) hl hst fun i hi=>(hes i hi).keep0 K
  ·rintro w X2 ⟨hw,K2⟩
   rw[kontK_eq]
   refine⟨K2,?_⟩
   have K:=(K1.trans (Kp X1 (ι.t 26) (rep #[.int .i64 0] el.length))).trans K2
   simp only[go_sem,Za,Zb]
   exact stL_ok hK K rfl rfl rfl (hF1.keep0 ((Kp _ _ _).trans K2)) hw ((mk _ _).keep K2 (by simp)) hl hst fun i hi=>(hes i hi).keep0 K
 ·rintro r X1 ⟨⟨s',b',d',a',m',rfl⟩,hF1,K1⟩
  rw[kontK_eq]
  refine⟨K1,?_⟩
  simp only[go_sem,Za,Zb]
  refine(cb X1 ((Kp _ _ _).trans K1)).mono ?_
  rintro w X2 ⟨hw,K2⟩
  rw[kontK_eq]
  refine⟨K2,?_⟩
  have K:=((Kp A (ι.t 26) (rep #[.int .i64 0] el.length)).trans K1).trans K2
  simp only[go_sem,Za,Zb]
  exact stL_ok hK K rfl rfl rfl (hF1.keep0 K2) hw ((mk _ _).keep (K1.trans K2) (by simp)) hl hst fun i hi=>(hes i hi).keep0 K
def EStartSpec (P:Program) (ι:Ids) (k:FuncId):Prop:=∀(F:FlN) (el:List (Nat->Bool)) (vs:List Value) (v ev:Value) (H:Hp),TabOk ι H->ProFl H v F->SlR H ev vs->vs.length=el.length->el.length<=1000->(∀i<vs.length,SetM H (.agg #[vs.getD i undef]) (el.getD i fun _=>false))→
  (flwE F 63 (fun _=>false)=0->el.length=F.st.length->(∀i,i<el.length->¬badS (el.getD i fun _=>false))->GoodP (pbOf F el)/\SolB (pbOf F el) (List.replicate el.length 0)/\F.be.length<=1000)→
  CallsM P k #[v,ev] H fun r H'=>Keep (fun _=>False) H H'∧
    ((flwE F 63 (fun _=>false)≠0/\r=.tuple #[.pointer none,.int .i64 (flwE F 63 (fun _=>false))])∨
     (flwE F 63 (fun _=>false)=0/\el.length≠F.st.length/\r=.tuple #[.pointer none,.int .i64 1])∨
     (flwE F 63 (fun _=>false)=0/\el.length=F.st.length/\(∃i,i<el.length/\badS (el.getD i fun _=>false))/\r=.tuple #[.pointer none,.int .i64 2])∨
     (flwE F 63 (fun _=>false)=0/\el.length=F.st.length/\(∀i,i<el.length->¬badS (el.getD i fun _=>false))∧
       ((solF (pbOf F el) (List.replicate el.length 0)=none/\r=.tuple #[.pointer none,.int .i64 12])∨
        ((solF (pbOf F el) (List.replicate el.length 0)).isSome=true/\∃rb,r=.tuple #[.pointer (some ⟨rb,0,none⟩),.int .i64 0]/\RunV H' rb F el (List.replicate el.length 0)))))
structure StaC (P:Program) (ι:Ids):Prop where
 chk:FChkSpec P ι (ι.f 307)
 usr:EUsrSpec P (ι.f 378)
 cpy:ECopySpec P (ι.f 390)
 cln:ClnVSpec P (ι.f 374)
 pln:EPlanSpec P ι (ι.f 377)
theorem estart_ok {k:FuncId} (hk:FnIs P k (c_estart ι) r_estart 2) (c:StaC P ι):EStartSpec P ι k:=by
  intro F el vs v ev H hT hF hev hl hll hes hgood
  have hF0:=hF
  obtain⟨s,b,d,a,m,ms,rfl,h1,h2,h3,h4,h5,h6⟩:=hF
  have hvs:∀x∈vs,isSl x:=fun x hx=>by
    obtain⟨i,hi,rfl⟩:=List.getElem_of_mem hx
    obtain⟨u,W,e,hV⟩:=hes i hi
    rw[List.getD_eq_getElem?_getD,List.getElem?_eq_getElem hi,Option.getD_some]at e
    cases e
    exact hV.sl.isSl
  obtain⟨Q,hQ⟩:∃Q:Value->Hp->Prop,Q=fun r H'=>Keep (fun _=>False) H H'∧
    ((flwE F 63 (fun _=>false)≠0/\r=.tuple #[.pointer none,.int .i64 (flwE F 63 (fun _=>false))])∨
     (flwE F 63 (fun _=>false)=0/\el.length≠F.st.length/\r=.tuple #[.pointer none,.int .i64 1])∨
     (flwE F 63 (fun _=>false)=0/\el.length=F.st.length/\(∃i,i<el.length/\badS (el.getD i fun _=>false))/\r=.tuple #[.pointer none,.int .i64 2])∨
     (flwE F 63 (fun _=>false)=0/\el.length=F.st.length/\(∀i,i<el.length->¬badS (el.getD i fun _=>false))∧
       ((solF (pbOf F el) (List.replicate el.length 0)=none/\r=.tuple #[.pointer none,.int .i64 12])∨
        ((solF (pbOf F el) (List.replicate el.length 0)).isSome=true/\∃rb,r=.tuple #[.pointer (some ⟨rb,0,none⟩),.int .i64 0]/\RunV H' rb F el (List.replicate el.length 0))))):=⟨_,rfl⟩
  rw[<-hQ]
  refine calls_of_vc hk (args:=[_,_]) (by simp) ?_
  unfold c_estart r_estart kA kB kF kC kD kG kL kM kQ kR kU kV kY kZ
  simp only[go_sem,Za,Zb]
  refine kont_new fun H1 b2 e1 z1 B1 K1=>?_
  have B1':Bl H1 b2 [s,b,d,a,m]:=B1
  have l5:ldNO H1 (.pointer (some ⟨b2,0,none⟩)) 5=some #[s,b,d,a,m]:=B1'.ldNO 5 rfl
  simp only[go_sem,Za,Zb,l5]
  refine(c.chk F _ _ 63 (fun _=>false) H1 (hT.keep K1) (hF0.keep0 K1) (SetM.empty _ _ _)).mono ?_
  rintro r H2 ⟨rfl,K2⟩
  have K12:=K1.trans K2
  rw[kont_eq]
  by_cases x1:flwE F 63 (fun _=>false)=0
  case neg=>
    have q1:(flwE F 63 (fun _=>false)!=0)=true:=bne_iff_ne.2 x1
    simp only[go_sem,Za,Zb,q1]
    rw[hQ]
    exact⟨K12,.inl ⟨x1,rfl⟩⟩
  have q1:(flwE F 63 (fun _=>false)!=0)=false:=by rw[x1];rfl
  have B2:=K2.bl B1' (by simp)
  have c0:cell H2 ⟨b2,0,none⟩=some s:=by rw[B2.cell];rfl
  have ls:lenV s=F.st.length:=h1.len
  simp only[go_sem,Za,Zb,q1,c0,h1.isSl,ls]
  refine(c.usr el vs ev (F.st.length:Int) H2 (hev.keep K12 (by simp)) hl hll fun i hi=>(hes i hi).keep0 K12).mono ?_
  rintro r H3 ⟨e,rfl,K3,hcase⟩
  have K13:=K12.trans K3
  rw[kont_eq]
  rcases hcase with⟨hne,rfl⟩|⟨heq,⟨rfl,hbad⟩|⟨rfl,hok⟩⟩
  · have q2:((1:Int)!=0)=true:=rfl
    simp only[go_sem,Za,Zb,q2]
    rw[hQ]
    exact⟨K13,.inr (.inl ⟨x1,by omega,rfl⟩)⟩
  · have q2:((2:Int)!=0)=true:=rfl
    simp only[go_sem,Za,Zb,q2]
    rw[hQ]
    exact⟨K13,.inr (.inr (.inl ⟨x1,by omega,hbad,rfl⟩))⟩
  have heq':el.length=F.st.length:=by omega
  obtain⟨hG,hB,hbe⟩:=hgood x1 heq' hok
  have q2:((0:Int)!=0)=false:=rfl
  have g1:F.di.length<=20:=hG.dl
  have g2:F.sa.length<=20:=hG.sl
  have g3:F.mo.length<=20:=hG.ml
  simp only[go_sem,Za,Zb,q2]
  refine stR_ok c.cpy c.cln (F:=F) (el:=el) (vs:=vs) (b2:=b2) (ev:=ev) (by rfl) (by rfl) (K3.bl B2 (by simp)) (hF0.keep0 K13) (hev.keep K13 (by simp)) hl heq'.symm hll (fun i hi=>(hes i hi).keep0 K13) hvs hbe (by omega) (by omega) (by omega) fun X rb hR KX=>?_
  obtain⟨sv,c6,hsv⟩:=hR.staff
  have KHX:=K13.trans KX
  simp only[go_sem,Za,Zb,c6]
  refine(c.pln F el _ _ rb sv X (hT.keep KHX) hR hsv hG hB).mono ?_
  rintro r X1 ⟨y,rfl,K4,-⟩
  rw[kont_eq]
  cases hso:(solF (pbOf F el) (List.replicate el.length 0)).isSome with
  |false=>
    simp only[go_sem,Za,Zb,Bool.not_false]
    rw[hQ]
    exact⟨KHX.trans K4,.inr (.inr (.inr ⟨x1,heq',hok,.inl ⟨Option.isNone_iff_eq_none.1 (by rw[<-Option.not_isSome,hso];rfl),rfl⟩⟩))⟩
  |true=>
    simp only[go_sem,Za,Zb,Bool.not_true]
    rw[hQ]
    exact⟨KHX.trans K4,.inr (.inr (.inr ⟨x1,heq',hok,.inr ⟨hso,rb,rfl,hR.keep0 K4⟩⟩))⟩
end Go.Mg
namespace Go.Mg
open Go Go.RowKit
set_option linter.all false
set_option maxRecDepth 100000
end Go.Mg
