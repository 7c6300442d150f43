/- Lemmas of ours. No conditions. -/
import Derived.Test.YteeemadonfcliaaGreatDoorMgG7
open Nat renaming reduceEqDiff→Za,reduceAdd→Zb,reduceMul→Zc,reduceLeDiff→Zd,reduceLT→Ze
open Int renaming reduceBEq→Zf,reduceBNe→Zg,reduceLE→Zh,reduceLT→Zi
set_option linter.all false
set_option maxRecDepth 100000
namespace Go.Mg
open Go Go.RowKit
def uJ (ι:aJ):S:=
 kY [kC 4 (.bool false)] (kY [kA 5 0,kf (.st (.v 1) (.t 5)),kf (.st (.v 2) (.c (.bool true)))] (kY [kC 4 (.bool true)] .ret))
def uK:List RV:=[.t 4]
def xo (ι:aJ):T:=
 (kW 14 (.m (.jA #[kZ,kZ,kZ,kZ,kZ,kZ,kZ,.int .i64 0,.int .i64 0,.nilFunc] [(0,(5,.t 7)),(5,(1,.t 10)),(6,(1,.t 11)),(8,(1,.t 12)),(9,(1,.t 13))])) (ka 15 (.box (ι.t 370) (.t 14)) (kX 6 (.mv (.t 15)) .done) .wnil))
def zG (ι:aJ):S:=
 kY [kR 3 (ι.t 358) 0,kC 6 (.pointer .none)] (.seq (.dr (kW 7 (.m (.ldn 5 (.v 3))) (kW 8 (.fa 4 (.v 3)) (kW 9 (.ld (.t 8)) (kW 12 (.mv (.v 1)) (kW 13 (.mv (.v 2)) (ka 10 (kg (ι.f 159) [.t 9]) (ka 11 (.nq (ι.t 368) 4 64 #[.int .u8 0,.int .i64 0,kZ,kZ] (.c (.int .i64 1)) (.c (.int .i64 1))) (xo ι) .wnil) (ka 11 (.nq (ι.t 368) 4 64 #[.int .u8 0,.int .i64 0,kZ,kZ] (.c (.int .i64 1)) (.c (.int .i64 1))) (ka 10 (kg (ι.f 159) [.t 9]) (xo ι) .wnil) .wnil)))))))) .ret)
def zH:List RV:=[.t 6]
def pW (ι:aJ):S:=
 kY [kR 2 (ι.t 358) 0,kd 4 (.new (ι.t 138) #[kZ]),kd 5 (.new (ι.t 372) #[kZ]),kd 6 (.new (ι.t 151) #[.bool false]),kC 7 (.int .i64 0)] (.seq (kY [kM 10 5 2,kc 11 (kg (ι.f 360) [.t 10]),kB 8 11] (kY [kA 12 8,kV 13 (.cm .neq .i64 (.t 12) (.c (.int .i64 0)))] (.ite (.v 13) (.seq (.dr (kW 15 (.mv (.v 8)) (ka 14 (.rd (.m (.ldn 1 (.v 5)))) (kb (.st (.v 4) (.c (kZ))) (kb (.stn 1 (.v 5) (.t 14)) (kb (.st (.v 6) (.c (.bool false))) (kX 7 (.mv (.t 15)) .done) .wnil) .wnil) .wnil) (kb (.st (.v 4) (.c (kZ))) (ka 14 (.rd (.m (.ldn 1 (.v 5)))) (kb (.stn 1 (.v 5) (.t 14)) (kb (.st (.v 6) (.c (.bool false))) (kX 7 (.mv (.t 15)) .done) .wnil) .wnil) .wnil) .wnil)))) .ret) .skip))) (.seq (kY [kA 16 1,kV 17 (.cm .lss .i64 (.t 16) (.c (.int .i64 0)))] (.ite (.v 17) (.seq (.dr (ka 18 (.rd (.m (.ldn 1 (.v 5)))) (kb (.st (.v 4) (.c (kZ))) (kb (.stn 1 (.v 5) (.t 18)) (kb (.st (.v 6) (.c (.bool false))) (kX 7 (.mv (.c (.int .i64 1))) .done) .wnil) .wnil) .wnil) (kb (.st (.v 4) (.c (kZ))) (ka 18 (.rd (.m (.ldn 1 (.v 5)))) (kb (.stn 1 (.v 5) (.t 18)) (kb (.st (.v 6) (.c (.bool false))) (kX 7 (.mv (.c (.int .i64 1))) .done) .wnil) .wnil) .wnil) .wnil))) .ret) .skip)) (kY [kM 19 5 2,kA 20 1,kU 21 (.m (.mkf (ι.f 369) [] [.v 4,.v 6])),kc 22 (kg (ι.f 371) [.t 19,.t 20,.t 21]),kB 9 22] (kY [kA 23 9,kc 24 (kg (ι.f 367) [.t 23,.c (.int .i64 0)])] (.seq (.blk 0 (kY [kU 26 (.ld (.v 6)),kB 25 26] (.ite (.v 25) (.seq (.dr (ka 27 (.rd (.ld (.v 4))) (ka 28 (.rd (.m (.ldn 1 (.v 5)))) (kb (.st (.v 4) (.t 27)) (kb (.stn 1 (.v 5) (.t 28)) (kb (.st (.v 6) (.c (.bool true))) (kX 7 (.mv (.c (.int .i64 0))) .done) .wnil) .wnil) .wnil) (kb (.st (.v 4) (.t 27)) (ka 28 (.rd (.m (.ldn 1 (.v 5)))) (kb (.stn 1 (.v 5) (.t 28)) (kb (.st (.v 6) (.c (.bool true))) (kX 7 (.mv (.c (.int .i64 0))) .done) .wnil) .wnil) .wnil) .wnil)) (ka 28 (.rd (.m (.ldn 1 (.v 5)))) (ka 27 (.rd (.ld (.v 4))) (kb (.st (.v 4) (.t 27)) (kb (.stn 1 (.v 5) (.t 28)) (kb (.st (.v 6) (.c (.bool true))) (kX 7 (.mv (.c (.int .i64 0))) .done) .wnil) .wnil) .wnil) .wnil) .wnil))) .ret) (kY [kA 30 9,kc 31 (kg (ι.f 366) [.t 30]),kB 29 31] (.ite (.v 29) (.seq (.dr (ka 32 (.rd (.m (.ldn 1 (.v 5)))) (kb (.st (.v 4) (.c (kZ))) (kb (.stn 1 (.v 5) (.t 32)) (kb (.st (.v 6) (.c (.bool false))) (kX 7 (.mv (.c (.int .i64 3))) .done) .wnil) .wnil) .wnil) (kb (.st (.v 4) (.c (kZ))) (ka 32 (.rd (.m (.ldn 1 (.v 5)))) (kb (.stn 1 (.v 5) (.t 32)) (kb (.st (.v 6) (.c (.bool false))) (kX 7 (.mv (.c (.int .i64 3))) .done) .wnil) .wnil) .wnil) .wnil))) .ret) .skip))))) (.seq (.dr (kW 33 (.mv (.v 9)) (kW 34 (.nil (.t 33)) (kW 35 (.fa 6 (.t 34)) (kW 36 (.ld (.t 35)) (kW 37 (.m (.jA #[kZ] [(0,(1,.t 36))])) (kb (.st (.v 4) (.c (kZ))) (kb (.stn 1 (.v 5) (.t 37)) (kb (.st (.v 6) (.c (.bool false))) (kX 7 (.mv (.c (.int .i64 0))) .done) .wnil) .wnil) .wnil))))))) .ret))))))
def pY:List RV:=[.c1 4,.cn 5 1,.c1 6,.t 7]
def W3 (r4 r5 r6 q:Nat):Prop:=q=r4\/q=r5\/q=r6
def Tf (seen:List (List Int)):Bool:=!seen.isEmpty
def YB (r4 r5 r6:Nat) (seen:List (List Int)) (H:Hp):Prop:=match seen with
 |[]=>Bl H r4 [.slice none 0 0]/\Bl H r5 [.slice none 0 0]/\Bl H r6 [.bool false]
 |t::_=>∃v,Bl H r4 [v]/\Bl H r5 [.slice none 0 0]/\Bl H r6 [.bool true]/\aG H v (iL t)/\∀q,aU v q->¬W3 r4 r5 r6 q
variable {P:Program} {ι:aJ} {k:FuncId}
theorem GB (hk:aq P k (uJ ι) uK 3) {r4 r5 r6:Nat} (hne:r4≠r5/\r4≠r6/\r5≠r6):BQ P (W3 r4 r5 r6) (.func (.func k) #[] #[.pointer (some ⟨r4,0,none⟩),.pointer (some ⟨r6,0,none⟩)]) Tf (YB r4 r5 r6):=by
 refine⟨⟨k,_,rfl,hk.body,fun seen t v H hst hJ hv hn=>?_⟩,fun seen H H' W hst hJ hK hW=>?_⟩
 ·have hs:seen=[]:=by
   cases seen with
   |nil=>rfl
   |cons a l=>cases hst
  subst hs;obtain⟨B4,B5,B6⟩:=hJ
  change an P k #[v,.pointer (some ⟨r4,0,none⟩),.pointer (some ⟨r6,0,none⟩)] H _
  refine ah hk (args:=[_,_,_]) (by simp) ?_;unfold uJ uK kA kC kf kY;have hs:=hv.ax;have t4:=B4.bk (o:=0) (by simp);have Dt:=B4.al 0 v;have k4:af (fun q=>q=r4) H (al H ⟨r4,0,none⟩ v):=(af.refl _ _).al _ (.inl rfl);have ID:=k4.bl B6 (fun e=>hne.2.1 e.symm);have t6:=ID.bk (o:=0) (by simp);have B6s:=ID.al 0 (.bool true);have k6:af (fun q=>q=r6) (al H ⟨r4,0,none⟩ v) (al (al H ⟨r4,0,none⟩ v) ⟨r6,0,none⟩ (.bool true)):=(af.refl _ _).al _ (.inl rfl);have o1:v.oneCell'=true:=aM hs;simp-implicitDefEqProofs only[go_sem,zS,↓reduceIte,Za,Zb,Zc,reduceCtorEq,zU,zV,Zf,Zg,Zh,Zi,Zd,Ze,zF,t4];refine⟨o1,?_⟩;rw[ae];simp-implicitDefEqProofs only[go_sem,zS,↓reduceIte,Za,Zb,Zc,reduceCtorEq,zU,zV,Zf,Zg,Zh,Zi,Zd,Ze,zF,t6];rw[ae];simp-implicitDefEqProofs only[go_sem,zS,↓reduceIte,Za,Zb,Zc,reduceCtorEq,ae,zU,zV,Zf,Zg,Zh,Zi,Zd,Ze,zF];have KK:af (W3 r4 r5 r6) H (al (al H ⟨r4,0,none⟩ v) ⟨r6,0,none⟩ (.bool true)):=(k4.mono fun q _ e=>.inl e).trans (k6.mono fun q _ e=>.inr (.inr e));exact⟨rfl,⟨v,k6.bl Dt hne.2.1,k6.bl (k4.bl B5 fun e=>hne.1 e.symm) hne.2.2,B6s,hv.ag KK fun q hq=>hn q hq,hn⟩,KK⟩
 ·have hs:seen=[]:=by
   cases seen with
   |nil=>rfl
   |cons a l=>cases hst
  subst hs;exact⟨hK.bl hJ.1 (hW _ (.inl rfl)),hK.bl hJ.2.1 (hW _ (.inr (.inl rfl))),hK.bl hJ.2.2 (hW _ (.inr (.inr rfl)))⟩
def mK (P:Program) (k:FuncId):Prop:=∀(el di sa mo fv:Value) (fx:List Int) (g:FuncId) (ca:Array Value) (H:Hp),aG H fv (iL fx)->fx≠[]->fx.length<=1000→
 an P k #[.agg #[el,di,sa,mo,fv],.int .i64 0,.func (.func g) #[] ca] H fun r H'=>∃sB bG eY nv,r=.pointer (some ⟨sB,0,none⟩)/\H.size<=bG/\bG<sB∧
  Bl H' sB [el,di,sa,mo,fv,.slice (some ⟨bG,0,none⟩) fx.length eY,nv,.int .i64 0,.int .i64 0,.func (.func g) #[] ca]/\bY H' (.slice (some ⟨bG,0,none⟩) fx.length eY) (iL fx)∧
  dG jC 4 H' nv [zy]/\(∀q,az nv q->H.size<=q/\q≠bG/\q<sB)/\af (fun _=>False) H H'
theorem Pz {W:Nat->Prop} {el di sa mo fv:Value} {ba:Option Addr} {n eY nn nc:Nat} {no:Option Addr} {g:FuncId} {ca:Array Value} {e:Env} {f:Fr} {A:Hp} {Q:Fr->Hp->Prop}
  (e7:look e 7=.agg #[el,di,sa,mo,fv]) (e10:look e 10=.slice ba n eY) (e11:look e 11=.slice no nn nc) (e12:look e 12=.int .i64 0) (e13:look e 13=.func (.func g) #[] ca)
  (hK:∀A',Bl A' A.size [el,di,sa,mo,fv,.slice ba n eY,.slice no nn nc,.int .i64 0,.int .i64 0,.func (.func g) #[] ca]->af (fun _=>False) A A'->Q (bN f 6 (.pointer (some ⟨A.size,0,none⟩))) A'):cK P W (xo ι) e f A Q:=by
 unfold xo kW kX ka kZ;simp-implicitDefEqProofs only[go_sem,zS,↓reduceIte,Za,Zb,Zc,reduceCtorEq,zU,zV,Zf,Zg,Zh,Zi,Zd,Ze,zF,e7,e10,e11,e12,e13];exact⟨(af.refl _ _).push _,hK _ (Bl.cW _ _ _) ((af.refl _ _).push _)⟩
theorem Kv (hk:aq P k (zG ι) zH 3) (hc:dA P (ι.f 159)):mK P k:=by
 intro el di sa mo fv fx g ca H hf hne hl;refine ah hk (args:=[_,_,_]) (by simp) ?_;unfold zG zH kC kR kW ka kg kY kZ;simp-implicitDefEqProofs only[go_sem,zS,↓reduceIte,Za,Zb,Zc,reduceCtorEq,zU,zV,Zf,Zg,Zh,Zi,Zd,Ze,zF];refine ay fun H1 b3 e3 z3 B3 K3=>?_;have nV:Bl H1 b3 [el,di,sa,mo,fv]:=B3;have c4:cell H1 ⟨b3,4,none⟩=some fv:=by rw[nV.cell];rfl
 have l5:aR H1 ⟨b3,0,none⟩ 5=some #[el,di,sa,mo,fv]:=by
  have:=nV.aR (o:=0) (n:=5) (by simp);simpa using this
 have s3:=K3.size;have Rh:=hf.ag K3 (by simp);have zr:(rep #[Value.int .u8 0,.int .i64 0,.slice none 0 0,.slice none 0 0] 4).toList=([((0:Int),(0:Int),((none,0,0):S3),((none,0,0):S3))]:List vv).flatMap jC:=by
  simp[rep,jC,mJ,Array.toList_range,List.range_succ]
 simp-implicitDefEqProofs only[go_sem,zS,↓reduceIte,Za,Zb,Zc,reduceCtorEq,zU,zV,Zf,Zg,Zh,Zi,Zd,Ze,zF];refine bC (fun _=>False) ?_;simp-implicitDefEqProofs only[go_sem,zS,↓reduceIte,Za,Zb,Zc,reduceCtorEq,zU,zV,Zf,Zg,Zh,Zi,Zd,Ze,zF,c4,l5,aB]
 -- what the tail leaves
 have tail:∀(e:Env) (A:Hp) (v:Value) (bn:Nat),bY A v (iL fx)->(∀q,az v q->H.size<=q)->Bl A bn (([((0:Int),(0:Int),((none,0,0):S3),((none,0,0):S3))]:List vv).flatMap jC)->H.size<=bn->(∀q,az v q->q≠bn)->af (fun _=>False) H A→
   look e 7=.agg #[el,di,sa,mo,fv]->look e 10=v->look e 11=.slice (some ⟨bn,0,none⟩) 1 1->look e 12=.int .i64 0->look e 13=.func (.func g) #[] ca->∀(f:Fr),cK P (fun _=>False) (xo ι) e f A fun f' A'=>kx [.t 6] (fun r H'=>∃sB bG eY nv,r=.pointer (some ⟨sB,0,none⟩)/\H.size<=bG/\bG<sB∧
  Bl H' sB [el,di,sa,mo,fv,.slice (some ⟨bG,0,none⟩) fx.length eY,nv,.int .i64 0,.int .i64 0,.func (.func g) #[] ca]/\bY H' (.slice (some ⟨bG,0,none⟩) fx.length eY) (iL fx)∧
  dG jC 4 H' nv [zy]/\(∀q,az nv q->H.size<=q/\q≠bG/\q<sB)/\af (fun _=>False) H H') .r f' A':=fun e A v bn O o Bn hbn hd KA e7 e10 e11 e12 e13 f=>by
  obtain⟨b,c,L,rfl,h1,h2,hB,h3,_⟩:=O.some (by intro e';exact hne (List.eq_nil_of_length_eq_zero (by rw[<-ak,e'];rfl)));rw[ak]at*;refine Pz e7 e10 e11 e12 e13 fun A' BA Pd=>?_;have hb:=o b rfl;have hlt:=O.bM (k:=b) rfl;have YC:=Bn.lt;simp-implicitDefEqProofs only[go_sem,zS,↓reduceIte,Za,Zb,Zc,reduceCtorEq,ae,zU,zV,Zf,Zg,Zh,Zi,Zd,Ze,zF];refine⟨A.size,b,c,.slice (some ⟨bn,0,none⟩) 1 1,rfl,hb,hlt,BA,O.ag Pd (by simp),?_,fun q hq=>?_,KA.trans Pd⟩
  ·exact dG.bl (Pd.bl Bn (by simp)) rfl (Nat.le_refl _) (by simp[jC]) (by simp[jC,zy])
  ·have iJ:q=bn:=hq;subst iJ;exact⟨hbn,fun e'=>hd b rfl e'.symm,YC⟩
 refine⟨(hc fx fv H1 Rh (by omega)).mono ?_,⟨by omega,by unfold maxLen;omega⟩,(af.refl _ _).push _,(hc fx fv _ (Rh.ag ((af.refl (fun _=>False) _).push _) (by simp)) (by omega)).mono ?_⟩
 ·rintro v A ⟨O,o,K⟩;have sK:=K.size;rw[aK];refine⟨K,?_⟩;simp-implicitDefEqProofs only[go_sem,zS,↓reduceIte,Za,Zb,Zc,reduceCtorEq,zU,zV,Zf,Zg,Zh,Zi,Zd,Ze,zF];have B':=Bl.cW A (rep #[Value.int .u8 0,.int .i64 0,.slice none 0 0,.slice none 0 0] 4) (ι.t 368);rw[zr]at B';have KP:=(af.refl (fun _=>False) A).push (Obj.cells (rep #[Value.int .u8 0,.int .i64 0,.slice none 0 0,.slice none 0 0] 4) (ι.t 368));refine⟨⟨by omega,by unfold maxLen;omega⟩,KP,?_⟩;exact tail _ _ v A.size (O.ag KP (by simp)) (fun q hq=>by have:=o q hq;omega) B' (by omega) (fun q hq=>by have:=O.bM hq;omega) ((K3.trans K).trans KP) rfl rfl rfl rfl rfl _
 ·rintro v A ⟨O,o,K⟩;have sK:=K.size;rw[Array.size_push]at sK;have B':=Bl.cW H1 (rep #[Value.int .u8 0,.int .i64 0,.slice none 0 0,.slice none 0 0] 4) (ι.t 368);rw[zr]at B';have KP:=(af.refl (fun _=>False) H1).push (Obj.cells (rep #[Value.int .u8 0,.int .i64 0,.slice none 0 0,.slice none 0 0] 4) (ι.t 368));rw[aK];refine⟨K,?_⟩;simp-implicitDefEqProofs only[go_sem,zS,↓reduceIte,Za,Zb,Zc,reduceCtorEq,zU,zV,Zf,Zg,Zh,Zi,Zd,Ze,zF];refine tail _ _ v H1.size O (fun q hq=>?_) (K.bl B' (by simp)) (by omega) (fun q hq=>?_) ((K3.trans KP).trans K) rfl rfl rfl rfl rfl _
  ·have:=o q hq;rw[Array.size_push]at this;omega
  ·have:=o q hq;rw[Array.size_push]at this;omega
structure fX (r4 r5 r6:Nat) (H0 H:Hp) (x4 x5 x6:Value):Prop where
 b4:Bl H r4 [x4]
 b5:Bl H r5 [x5]
 b6:Bl H r6 [x6]
 k:af (fun q=>q=r4\/q=r5\/q=r6) H0 H
section
variable {P:Program} {r4 r5 r6:Nat} {H0 X:Hp} {x4 x5 x6:Value} {e:Env} {f:Fr} {t m:T} {d:Nat} {Q:Fr->Hp->Prop} {a:A}
theorem fX.rd4 (h:fX r4 r5 r6 H0 X x4 x5 x6) (f4:f 4=.pointer (some ⟨r4,0,none⟩)) (hK:cK P (W3 r4 r5 r6) t ((d,x4)::e) f X Q) (hm:cK P (W3 r4 r5 r6) m e f X Q):cK P (W3 r4 r5 r6) (.wcons (.t d) none (.rd (.ld (.v 4))) t m) e f X Q:=by
 have c4:cell X ⟨r4,0,none⟩=some x4:=by rw[h.b4.cell];rfl
 rw[iy];simp only[EX.wp,PX.pre,PX.val,oD,f4,AT,c4,aK,oE,x9,Option.isSome_some,Option.getD_some];exact⟨⟨trivial,af.refl _ _,hK⟩,hm⟩
theorem fX.rd5 (h:fX r4 r5 r6 H0 X x4 x5 x6) (f5:f 5=.pointer (some ⟨r5,0,none⟩)) (hK:cK P (W3 r4 r5 r6) t ((d,.agg #[x5])::e) f X Q) (hm:cK P (W3 r4 r5 r6) m e f X Q):cK P (W3 r4 r5 r6) (.wcons (.t d) none (.rd (.m (.ldn 1 (.v 5)))) t m) e f X Q:=by
 have l5:aI X (.pointer (some ⟨r5,0,none⟩)) 1=some #[x5]:=h.b5.aI 1 rfl;rw[iy];simp only[EX.wp,PX.pre,PX.val,PM.pre,PM.val,oD,f5,l5,aK,oE,x9,Option.isSome_some,Option.getD_some];exact⟨⟨trivial,af.refl _ _,hK⟩,hm⟩
theorem fX.st4 (h:fX r4 r5 r6 H0 X x4 x5 x6) (hn:r4≠r5/\r4≠r6/\r5≠r6) (f4:f 4=.pointer (some ⟨r4,0,none⟩)) {y:Value} (ha:a.rd e f=y) (hy:y.oneCell'=true) (hK:∀X',fX r4 r5 r6 H0 X' y x5 x6->cK P (W3 r4 r5 r6) t e f X' Q) (hm:cK P (W3 r4 r5 r6) m e f X Q):cK P (W3 r4 r5 r6) (.wcons .no none (.st (.v 4) a) t m) e f X Q:=by
 have t4:=h.b4.bk (o:=0) (by simp);have K:af (fun q=>q=r4) X (al X ⟨r4,0,none⟩ y):=(af.refl _ _).al _ (.inl rfl);rw[iy];simp only[EX.wp,bk,QE,oD,f4,ha,aK,rz,lU];exact⟨⟨⟨t4,hy⟩,K.mono fun q _ e=>.inl e,hK _ ⟨h.b4.al 0 y,K.bl h.b5 fun e=>hn.1 e.symm,K.bl h.b6 fun e=>hn.2.1 e.symm,h.k.trans (K.mono fun q _ e=>.inl e)⟩⟩,hm⟩
theorem fX.zI (h:fX r4 r5 r6 H0 X x4 x5 x6) (hn:r4≠r5/\r4≠r6/\r5≠r6) (f6:f 6=.pointer (some ⟨r6,0,none⟩)) {y:Value} (ha:a.rd e f=y) (hy:y.oneCell'=true) (hK:∀X',fX r4 r5 r6 H0 X' x4 x5 y->cK P (W3 r4 r5 r6) t e f X' Q) (hm:cK P (W3 r4 r5 r6) m e f X Q):cK P (W3 r4 r5 r6) (.wcons .no none (.st (.v 6) a) t m) e f X Q:=by
 have t4:=h.b6.bk (o:=0) (by simp);have K:af (fun q=>q=r6) X (al X ⟨r6,0,none⟩ y):=(af.refl _ _).al _ (.inl rfl);rw[iy];simp only[EX.wp,bk,QE,oD,f6,ha,aK,rz,lU];exact⟨⟨⟨t4,hy⟩,K.mono fun q _ e=>.inr (.inr e),hK _ ⟨K.bl h.b4 hn.2.1,K.bl h.b5 hn.2.2,h.b6.al 0 y,h.k.trans (K.mono fun q _ e=>.inr (.inr e))⟩⟩,hm⟩
theorem fX.st5 (h:fX r4 r5 r6 H0 X x4 x5 x6) (hn:r4≠r5/\r4≠r6/\r5≠r6) (f5:f 5=.pointer (some ⟨r5,0,none⟩)) {y:Value} (ha:a.rd e f=.agg #[y]) (hy:y.oneCell'=true) (hK:∀X',fX r4 r5 r6 H0 X' x4 y x6->cK P (W3 r4 r5 r6) t e f X' Q) (hm:cK P (W3 r4 r5 r6) m e f X Q):cK P (W3 r4 r5 r6) (.wcons .no none (.stn 1 (.v 5) a) t m) e f X Q:=by
 have t4:=h.b5.bK (o:=0) (n:=1) (by simp);have K:af (fun q=>q=r5) X (aA X ⟨r5,0,none⟩ [y]):=(af.refl _ _).aA _ (.inl rfl);have B:=h.b5.aA 0 [y];have a1:bQ #[y]:=bE (by simp[hy]);rw[iy];simp only[EX.wp,QD,cM,oD,f5,ha,aK,rz,lU,Value.cells];exact⟨⟨⟨t4,rfl,a1⟩,K.mono fun q _ e=>.inr (.inl e),hK _ ⟨K.bl h.b4 hn.1,B,K.bl h.b6 fun e=>hn.2.2 e.symm,h.k.trans (K.mono fun q _ e=>.inr (.inl e))⟩⟩,hm⟩
end
structure YD (P:Program) (ι:aJ):Prop where
 BR:fg P ι (ι.f 360)
 beg:mK P (ι.f 371)
 vis:aq P (ι.f 367) (nY ι) nZ 2
 slv:aq P (ι.f 369) (uJ ι) uK 3
 vc:Gz P ι
def rO (P:Program) (ι:aJ) (k:FuncId):Prop:=∀(p:eX) (fx:List Int) (w:Nat) (v:Value) (H:Hp),br ι H->dE H v p fx->cD p->jV p.el.length fx->(∀k,(aD (bS p k)).length<=w)->w<=256->1+gN w (eM fx)<=2199023255552→
 an P k #[v,.int .i64 0] H fun r H'=>∃sv rv,ax rv/\r=.tuple #[sv,.agg #[rv],.bool (dd p fx).isSome,.int .i64 0]/\af (fun _=>False) H H'/\match dd p fx with|none=>sv=.slice none 0 0|some t=>aG H' sv (iL t)
def PB (H0:Hp) (p:eX) (fx:List Int) (H:Hp) (rv:Value):Prop:=∃nl L σ,bo jC 4 H rv nl/\Gv H (fun q=>H0.size<=q) nl L/\iC p fx L σ/\(∀y∈L,y.sp=[])/\L.length<=2199023255552
def dQ (P:Program) (ι:aJ) (k:FuncId):Prop:=∀(p:eX) (fx:List Int) (w:Nat) (v:Value) (H:Hp),br ι H->dE H v p fx->cD p->jV p.el.length fx->(∀k,(aD (bS p k)).length<=w)->w<=256->1+gN w (eM fx)<=2199023255552→
 an P k #[v,.int .i64 0] H fun r H'=>∃sv rv,ax rv/\r=.tuple #[sv,.agg #[rv],.bool (dd p fx).isSome,.int .i64 0]/\af (fun _=>False) H H'/\match dd p fx with|none=>sv=.slice none 0 0/\PB H p fx H' rv|some t=>aG H' sv (iL t)
theorem dQ.yd {P:Program} {ι:aJ} {k:FuncId} (h:dQ P ι k):rO P ι k:=by
 intro p fx w v H a b c d e f g;refine(h p fx w v H a b c d e f g).mono ?_;rintro r H' ⟨sv,rv,h1,h2,h3,h4⟩;refine⟨sv,rv,h1,h2,h3,?_⟩
 cases hs:dd p fx with
 |none=>rw[hs]at h4;exact h4.1
 |some t=>rw[hs]at h4;exact h4
theorem Dv {P:Program} {ι:aJ} {k:FuncId} (hk:aq P k (pW ι) pY 2) (c:YD P ι):dQ P ι k:=by
 intro p fx w v H hT hv hG hU hw hw1 hB;have wR:=hv;obtain⟨el,di,sa,mo,fv,vs,ms,rfl,hp⟩:=hv;refine qI fun Q hQ=>?_;refine ah hk (args:=[_,_]) (by simp) ?_;unfold pW pY kA kB kC kM kR kU kV kW kX ka kb kc kd kg kY kZ;have qU:=hU.1;have hn0:=hG.n0;have hn:=hG.n;simp-implicitDefEqProofs only[go_sem,zS,↓reduceIte,Za,Zb,Zc,reduceCtorEq,zU,zV,Zf,Zg,Zh,Zi,Zd,Ze,zF];refine ay fun H1 b2 e1 z1 B1 K1=>?_;have eB:Bl H1 b2 [el,di,sa,mo,fv]:=B1;simp-implicitDefEqProofs only[go_sem,zS,↓reduceIte,Za,Zb,Zc,reduceCtorEq,zU,zV,Zf,Zg,Zh,Zi,Zd,Ze,zF];refine ay fun H2 r4 e2 z2 B2 K2=>?_;have vt:Bl H2 r4 [.slice none 0 0]:=B2;simp-implicitDefEqProofs only[go_sem,zS,↓reduceIte,Za,Zb,Zc,reduceCtorEq,zU,zV,Zf,Zg,Zh,Zi,Zd,Ze,zF];refine ay fun H3 r5 e3 z3 B3 K3=>?_;have nV:Bl H3 r5 [.slice none 0 0]:=B3;simp-implicitDefEqProofs only[go_sem,zS,↓reduceIte,Za,Zb,Zc,reduceCtorEq,zU,zV,Zf,Zg,Zh,Zi,Zd,Ze,zF];refine ay fun H4 r6 e4 z4 B4 K4=>?_;have Dc:Bl H4 r6 [.bool false]:=B4;have MS:=((K1.trans K2).trans K3).trans K4;have s4:=Dc.lt;have Fv:=((K2.trans K3).trans K4).bl eB (by simp);have JJ:=(K3.trans K4).bl vt (by simp);have Mv:=K4.bl nV (by simp);have l5:aI H4 (.pointer (some ⟨b2,0,none⟩)) 5=some #[el,di,sa,mo,fv]:=Fv.aI 5 rfl;have hne:r4≠r5/\r4≠r6/\r5≠r6:=by omega
 simp-implicitDefEqProofs only[go_sem,zS,↓reduceIte,Za,Zb,Zc,reduceCtorEq,zU,zV,Zf,Zg,Zh,Zi,Zd,Ze,zF,l5];refine(c.BR p fx _ H4 (wR.aj MS) hG hU).mono ?_;rintro r H5 ⟨rfl,K5⟩;have xS:((0:Int)!=0)=false:=rfl;have Ri:decide ((0:Int)<0)=false:=rfl;have Sh:=K5.bl Fv (by simp);have l5:aI H5 (.pointer (some ⟨b2,0,none⟩)) 5=some #[el,di,sa,mo,fv]:=Sh.aI 5 rfl;rw[ae];simp-implicitDefEqProofs only[go_sem,zS,↓reduceIte,Za,Zb,Zc,reduceCtorEq,zU,zV,Zf,Zg,Zh,Zi,Zd,Ze,zF,xS,Ri,l5];have IH:=MS.trans K5;have hp5:=hp.aj IH;refine(c.beg el di sa mo fv fx _ _ H5 hp5.f (by intro e;rw[e]at qU;simp at qU;omega) (by omega)).mono ?_;rintro r H6 ⟨sB,bG,eY,nv,rfl,hb1,hb2,BS,OS,ON,on,K6⟩;have s6:=K6.size;have s5:=K5.size;have Q3:=IH.trans K6;have Ou:=(K5.trans K6).bl JJ (by simp);have YE:=(K5.trans K6).bl Mv (by simp);have B46:=(K5.trans K6).bl Dc (by simp);have hev:=GB (P:=P) c.slv (r4:=r4) (r5:=r5) (r6:=r6) hne;have S6:jW H (W3 r4 r5 r6) sB bG eY el di sa mo fv (.func (.func (ι.f 369)) #[] #[.pointer (some ⟨r4,0,none⟩),.pointer (some ⟨r6,0,none⟩)]) H6 fx nv 1 [bX] fun _=>False:=by
  have s1:=K1.size;have s2:=K2.size;have s3:=K3.size;have s04:=MS.size;refine⟨Q3,by omega,by omega,by omega,⟨?_,?_⟩,?_,⟨0,BS⟩,OS,⟨[zy],ON,rfl,rfl,fun i hi=>?_⟩,fun q hq=>?_,fun q hq=>hq.elim⟩
  ·rintro(h|h|h)<;>omega
  ·rintro(h|h|h)<;>omega
  ·rintro q (h|h|h)<;>omega
  ·have:i=0:=by simpa using hi
   subst this;exact nA.zero _ _
  ·obtain⟨h1,h2,h3⟩:=on q hq;refine⟨by omega,by omega,h2,?_⟩;rintro(h|h|h)<;>omega
 rw[ae];simp-implicitDefEqProofs only[go_sem,zS,↓reduceIte,Za,Zb,Zc,reduceCtorEq,zU,zV,Zf,Zg,Zh,Zi,Zd,Ze,zF];refine(GA c.vis rfl c.vc hev hp hT hG hU hw hw1 (eM fx) fx nv 1 0 [bX] (fun _=>False) (fun _=>fx) [] H6 rfl hU S6 (ij.start hU) rfl rfl (by omega) hB rfl ⟨Ou,YE,B46⟩).mono ?_;rintro r H7 ⟨rfl,J7,K7,hgo⟩;have s04:=MS.size;have s1:=K1.size;have s2:=K2.size;have s3:=K3.size;have KH7:af (fun _=>False) H H7:=Q3.trans' K7 fun q hq h=>by
  rcases h with h|h|(h|h|h)|h
  ·omega
  ·omega
  ·omega
  ·omega
  ·omega
  ·have:=(on _ h).1;omega
 have wE:∀{X:Hp},af (fun q=>q=r4\/q=r5\/q=r6) H7 X->af (fun _=>False) H X:=fun K=>KH7.trans' K fun q hq h=>by rcases h with h|h|h<;>omega
 rw[ae]
 cases hL:c9 p (eM fx+1) fx with
 |nil=>
  have hs:dd p fx=none:=by unfold dd;rw[hL];rfl
  rw[hL]at J7 hgo;obtain⟨jX,N',L7,D7,σ7,S7,-,hN7,-,hD7,I7,X7⟩:=hgo rfl;have hL7:=S7.len;have f7:=X7.new rfl;have x7:=X7.len;have ok7:iC p fx L7 σ7:=by
   have:=I7.fin (by intro e;rw[e]at x7;simp at x7) fun i hi=>by
    by_cases e:i=0
    ·rw[e];exact f7.1
    ·exact f7.2 i (by simp;omega) hi
   rwa [X7.st 0 (by simp)]at this
  obtain⟨Tg,QW,Th⟩:Bl H7 r4 [.slice none 0 0]/\Bl H7 r5 [.slice none 0 0]/\Bl H7 r6 [.bool false]:=J7;obtain⟨lk,BS7⟩:=S7.blk;obtain⟨nl',YF,aaz,R7⟩:=S7.nd;have sp7:∀y∈L7,y.sp=[]:=fun y hy=>by
   obtain⟨i,hi,rfl⟩:=List.getElem_of_mem hy;have:=(R7.2 i hi).sp
   rwa [List.getD_eq_getElem?_getD,List.getElem?_eq_getElem hi]at this
  have d7:=S7.dn;have dn7:=S7.no;have YG:cell H7 ⟨r6,0,none⟩=some (.bool false):=by rw[Th.cell];rfl
  have hsB:¬(sB=r4\/sB=r5\/sB=r6):=by omega
  have YH:cell H7 ⟨sB,6,none⟩=some jX:=by rw[BS7.cell];rfl
  simp-implicitDefEqProofs only[go_sem,zS,↓reduceIte,Za,Zb,Zc,reduceCtorEq,zU,zV,Zf,Zg,Zh,Zi,Zd,Ze,zF,YG];refine(c.vc.full sB _ lk H7 BS7 rfl).mono ?_;rintro r H8 ⟨rfl,rfl⟩;rw[ae];simp-implicitDefEqProofs only[go_sem,zS,↓reduceIte,Za,Zb,Zc,reduceCtorEq,zU,zV,Zf,Zg,Zh,Zi,Zd,Ze,zF];obtain⟨na,nn,nc,rfl⟩:=YF.shape;refine bC (W3 r4 r5 r6) ?_;have hW:W3 r4 r5 r6 sB=False:=eq_false hsB;have base:fX r4 r5 r6 H8 H8 (.slice none 0 0) (.slice none 0 0) (.bool false):=⟨Tg,QW,Th,af.refl _ _⟩
  rw[cI,cI,cI,cI,cI];refine⟨trivial,by simp-implicitDefEqProofs only[go_sem,zS,↓reduceIte,Za,Zb,Zc,reduceCtorEq,zU,zV,Zf,Zg,Zh,Zi,Zd,Ze,zF],by simp-implicitDefEqProofs only[go_sem,zS,↓reduceIte,Za,Zb,Zc,reduceCtorEq,zU,zV,Zf,Zg,Zh,Zi,Zd,Ze,zF],by simp-implicitDefEqProofs only[go_sem,zS,↓reduceIte,Za,Zb,Zc,reduceCtorEq,zU,zV,Zf,Zg,Zh,Zi,Zd,Ze,zF,YH,hW],by simp-implicitDefEqProofs only[go_sem,zS,↓reduceIte,Za,Zb,Zc,reduceCtorEq,zU,zV,Zf,Zg,Zh,Zi,Zd,Ze,zF,YH],?_⟩;refine base.st4 hne (by simp-implicitDefEqProofs only[go_sem,zS,↓reduceIte,Za,Zb,Zc,reduceCtorEq,ae,zU,zV,Zf,Zg,Zh,Zi,Zd,Ze]) rfl rfl (fun X1 h1=>?_) trivial;refine h1.st5 hne (by simp-implicitDefEqProofs only[go_sem,zS,↓reduceIte,Za,Zb,Zc,reduceCtorEq,ae,zU,zV,Zf,Zg,Zh,Zi,Zd,Ze]) (y:=.slice na nn nc) (by simp-implicitDefEqProofs only[go_sem,zS,↓reduceIte,Za,Zb,Zc,reduceCtorEq,zU,zV,Zf,Zg,Zh,Zi,Zd,Ze,zF,YH]) rfl (fun X2 h2=>?_) trivial;refine h2.zI hne (by simp-implicitDefEqProofs only[go_sem,zS,↓reduceIte,Za,Zb,Zc,reduceCtorEq,ae,zU,zV,Zf,Zg,Zh,Zi,Zd,Ze]) rfl rfl (fun X3 h3=>?_) trivial;have k4:cell X3 ⟨r4,0,none⟩=some (.slice none 0 0):=by rw[h3.b4.cell];rfl
  have k6:cell X3 ⟨r6,0,none⟩=some (.bool false):=by rw[h3.b6.cell];rfl
  have k5:aI X3 (.pointer (some ⟨r5,0,none⟩)) 1=some #[.slice na nn nc]:=h3.b5.aI 1 rfl;simp-implicitDefEqProofs only[go_sem,zS,↓reduceIte,Za,Zb,Zc,reduceCtorEq,zU,zV,Zf,Zg,Zh,Zi,Zd,Ze,zF,cU,cV,k4,k5,k6];rw[hQ];refine⟨_,.slice na nn nc,trivial,by rw[hs];rfl,wE h3.k,?_⟩;rw[hs];exact⟨rfl,nl',L7,σ7,YF.sl.ag h3.k (fun q hq h=>(dn7 q (YF.aU hq)).2.2.2 h),R7.ag h3.k (fun q hq h=>(d7 q hq).2.2.2.2.1 h) fun q hq=>(d7 q hq).2.1,ok7,sp7,by omega⟩
 |cons t L=>
  have hs:dd p fx=some t:=by unfold dd;rw[hL];rfl
  have hd:gJ Tf [] (t::L)=([t],true):=rfl;rw[hL,hd]at J7;obtain⟨sv,Tg,QW,Th,hsv,hsn⟩:∃v,Bl H7 r4 [v]/\Bl H7 r5 [.slice none 0 0]/\Bl H7 r6 [.bool true]/\aG H7 v (iL t)/\∀q,aU v q->¬W3 r4 r5 r6 q:=J7;have YG:cell H7 ⟨r6,0,none⟩=some (.bool true):=by rw[Th.cell];rfl
  have hS:=hsv.ax;simp-implicitDefEqProofs only[go_sem,zS,↓reduceIte,Za,Zb,Zc,reduceCtorEq,zU,zV,Zf,Zg,Zh,Zi,Zd,Ze,zF,YG];refine bC (W3 r4 r5 r6) ?_;have base:fX r4 r5 r6 H7 H7 sv (.slice none 0 0) (.bool true):=⟨Tg,QW,Th,af.refl _ _⟩
  have leaf:∀(X:Hp) (e:Env) (f:Fr),f 4=.pointer (some ⟨r4,0,none⟩)->f 5=.pointer (some ⟨r5,0,none⟩)->f 6=.pointer (some ⟨r6,0,none⟩)->fX r4 r5 r6 H7 X sv (.slice none 0 0) (.bool true)->cK P (W3 r4 r5 r6) (.px (.v 7) none (.mv (.c (.int .i64 0))) .done) e f X fun f' A'=>kx [.c1 4,.cn 5 1,.c1 6,.t 7] Q .r f' A':=fun X e f f4 f5 f6 h3=>by
   have k4:cell X ⟨r4,0,none⟩=some sv:=by rw[h3.b4.cell];rfl
   have k6:cell X ⟨r6,0,none⟩=some (.bool true):=by rw[h3.b6.cell];rfl
   have k5:aI X (.pointer (some ⟨r5,0,none⟩)) 1=some #[.slice none 0 0]:=h3.b5.aI 1 rfl;simp-implicitDefEqProofs only[go_sem,zS,↓reduceIte,Za,Zb,Zc,reduceCtorEq,zU,zV,Zf,Zg,Zh,Zi,Zd,Ze,zF,cU,cV,f4,f5,f6,k4,k5,k6];rw[hQ];refine⟨_,.slice none 0 0,trivial,by rw[hs];rfl,wE h3.k,?_⟩;rw[hs];exact hsv.ag h3.k hsn
  have o1:sv.oneCell'=true:=aM hS
  repeat' (first|exact trivial|exact leaf _ _ _ (by simp-implicitDefEqProofs only[go_sem,zS,↓reduceIte,Za,Zb,Zc,reduceCtorEq,ae,zU,zV,Zf,Zg,Zh,Zi,Zd,Ze]) (by simp-implicitDefEqProofs only[go_sem,zS,↓reduceIte,Za,Zb,Zc,reduceCtorEq,ae,zU,zV,Zf,Zg,Zh,Zi,Zd,Ze]) (by simp-implicitDefEqProofs only[go_sem,zS,↓reduceIte,Za,Zb,Zc,reduceCtorEq,ae,zU,zV,Zf,Zg,Zh,Zi,Zd,Ze]) (by assumption)|refine fX.rd4 (by assumption) (by simp-implicitDefEqProofs only[go_sem,zS,↓reduceIte,Za,Zb,Zc,reduceCtorEq,ae,zU,zV,Zf,Zg,Zh,Zi,Zd,Ze]) ?_ ?_|refine fX.rd5 (by assumption) (by simp-implicitDefEqProofs only[go_sem,zS,↓reduceIte,Za,Zb,Zc,reduceCtorEq,ae,zU,zV,Zf,Zg,Zh,Zi,Zd,Ze]) ?_ ?_|refine fX.st4 (y:=sv) (by assumption) hne (by simp-implicitDefEqProofs only[go_sem,zS,↓reduceIte,Za,Zb,Zc,reduceCtorEq,ae,zU,zV,Zf,Zg,Zh,Zi,Zd,Ze]) rfl o1 (fun _ _=>?_) ?_|refine fX.st5 (y:=.slice none 0 0) (by assumption) hne (by simp-implicitDefEqProofs only[go_sem,zS,↓reduceIte,Za,Zb,Zc,reduceCtorEq,ae,zU,zV,Zf,Zg,Zh,Zi,Zd,Ze]) rfl rfl (fun _ _=>?_) ?_|refine fX.zI (y:=.bool true) (by assumption) hne (by simp-implicitDefEqProofs only[go_sem,zS,↓reduceIte,Za,Zb,Zc,reduceCtorEq,ae,zU,zV,Zf,Zg,Zh,Zi,Zd,Ze]) rfl rfl (fun _ _=>?_) ?_)
end Go.Mg
namespace Go.Mg
open Go Go.RowKit
def zJ (ι:aJ):S:=
 kY [kC 2 (kZ)] (.seq (kY [kA 3 0,kV 4 (.m (.eqn .sl false (.t 3)))] (.ite (.v 4) (kY [kC 2 (kZ)] .ret) .skip)) (kY [kc 5 (.cj (ι.t 128) 1 0 []),kA 6 0,kc 7 (.app false (ι.t 128) 1 24 #[kZ] (.t 5) (.t 6)),kB 2 7] .ret))
def zK:List RV:=[.t 2]
def zL (ι:aJ):S:=
 kY [kC 2 (kZ)] (.seq (kY [kA 3 0,kV 4 (.m (.eqn .sl false (.t 3)))] (.ite (.v 4) (kY [kC 2 (kZ)] .ret) .skip)) (kY [kc 5 (.cj (ι.t 298) 2 0 []),kA 6 0,kc 7 (.app false (ι.t 298) 2 32 #[.int .i64 0,kZ] (.t 5) (.t 6)),kB 2 7] .ret))
def zM:List RV:=[.t 2]
def GC (ι:aJ):T:=
 (kW 43 (.m (.jA #[kZ,kZ,kZ,kZ,kZ] [(0,(1,.t 31)),(1,(1,.t 34)),(2,(1,.t 37)),(3,(1,.t 40)),(4,(1,.t 42))])) (.wcons (.v 9) .none (.new (ι.t 358) #[kZ,kZ,kZ,kZ,kZ]) (kb (.stn 5 (.v 9) (.t 43)) .done .wnil) .wnil))
def pZ (ι:aJ):T:=
 (kW 43 (.m (.jA #[kZ,kZ,kZ,kZ,kZ] [(0,(1,.t 31)),(1,(1,.t 34)),(2,(1,.t 37)),(3,(1,.t 40)),(4,(1,.t 42))])) (kb (.stn 5 (.v 9) (.t 43)) .done .wnil))
def GD (ι:aJ):S:=
 (.dr (kW 30 (.mv (.v 1)) (kW 32 (.fa 2 (.v 3)) (kW 33 (.ld (.t 32)) (kW 35 (.fa 3 (.v 3)) (kW 36 (.ld (.t 35)) (kW 38 (.fa 4 (.v 3)) (kW 39 (.ld (.t 38)) (kW 41 (.mv (.v 2)) (ka 31 (kg (ι.f 374) [.t 30]) (ka 34 (kg (ι.f 204) [.t 33]) (ka 37 (kg (ι.f 204) [.t 36]) (ka 40 (kg (ι.f 375) [.t 39]) (ka 42 (kg (ι.f 159) [.t 41]) (GC ι) (.wcons (.v 9) .none (.new (ι.t 358) #[kZ,kZ,kZ,kZ,kZ]) (ka 42 (kg (ι.f 159) [.t 41]) (pZ ι) .wnil) .wnil)) (.wcons (.v 9) .none (.new (ι.t 358) #[kZ,kZ,kZ,kZ,kZ]) (ka 40 (kg (ι.f 375) [.t 39]) (ka 42 (kg (ι.f 159) [.t 41]) (pZ ι) .wnil) .wnil) .wnil)) (.wcons (.v 9) .none (.new (ι.t 358) #[kZ,kZ,kZ,kZ,kZ]) (ka 37 (kg (ι.f 204) [.t 36]) (ka 40 (kg (ι.f 375) [.t 39]) (ka 42 (kg (ι.f 159) [.t 41]) (pZ ι) .wnil) .wnil) .wnil) .wnil)) (.wcons (.v 9) .none (.new (ι.t 358) #[kZ,kZ,kZ,kZ,kZ]) (ka 34 (kg (ι.f 204) [.t 33]) (ka 37 (kg (ι.f 204) [.t 36]) (ka 40 (kg (ι.f 375) [.t 39]) (ka 42 (kg (ι.f 159) [.t 41]) (pZ ι) .wnil) .wnil) .wnil) .wnil) .wnil)) (.wcons (.v 9) .none (.new (ι.t 358) #[kZ,kZ,kZ,kZ,kZ]) (ka 31 (kg (ι.f 374) [.t 30]) (ka 34 (kg (ι.f 204) [.t 33]) (ka 37 (kg (ι.f 204) [.t 36]) (ka 40 (kg (ι.f 375) [.t 39]) (ka 42 (kg (ι.f 159) [.t 41]) (pZ ι) .wnil) .wnil) .wnil) .wnil) .wnil) .wnil)))))))))))
def GF (ι:aJ):S:=
 (.seq (kY [kM 50 5 9,kc 51 (kg (ι.f 360) [.t 50]),kB 10 51] (kY [kA 52 10,kV 53 (.cm .neq .i64 (.t 52) (.c (.int .i64 0)))] (.ite (.v 53) (kY [kU 54 (.m (.jA #[kZ,kZ,kZ,kZ,kZ] [])),kA 55 10,kf (.stn 5 (.v 6) (.t 54)),kB 7 55] .ret) .skip))) (kY [kM 56 5 9,kf (.stn 5 (.v 6) (.t 56)),kC 7 (.int .i64 0)] .ret))
def GG (ι:aJ):S:=
 (.seq (GD ι) (.seq (kY [kA 44 2,kL 45 44,kV 46 (.cm .eql .i64 (.t 45) (.c (.int .i64 0)))] (.ite (.v 46) (.reg [kA 47 8,kc 48 (.nq (ι.t 26) 1 8 #[.int .i64 0] (.t 47) (.t 47)),kG 49 4 9,kf (.st (.t 49) (.t 48))]) .skip)) (GF ι)))
def uL (ι:aJ):S:=
 kY [kR 3 (ι.t 296) 0,kd 6 (.new (ι.t 358) #[kZ,kZ,kZ,kZ,kZ]),kC 7 (.int .i64 0)] (kY [kG 11 0 3,kD 12 11,kL 13 12,kB 8 13] (.seq (kY [kA 14 1,kL 15 14,kA 16 8,kU 17 (.cm .neq .i64 (.t 15) (.t 16)),kF 18 17,kS 19 18 false 2,kT 20 18 false (.m (.lenl (.t 19))),kS 21 18 false 8,kT 22 18 false (.cm .neq .i64 (.t 20) (.t 21)),kT 23 18 false (.mv (.t 22)),kS 24 23 true 2,kT 25 23 true (.m (.lenl (.t 24))),kT 26 23 true (.cm .neq .i64 (.t 25) (.c (.int .i64 0))),kT 27 18 false (.pick (.t 23) (.t 26) (.c (.bool false))),kV 28 (.pick (.t 18) (.c (.bool true)) (.t 27))] (.ite (.v 28) (kY [kU 29 (.m (.jA #[kZ,kZ,kZ,kZ,kZ] [])),kf (.stn 5 (.v 6) (.t 29)),kC 7 (.int .i64 1)] .ret) .skip)) (GG ι)))
def uM:List RV:=[.cn 6 5,.t 7]
variable {H:Hp} {v:Value} {P:Program} {ι:aJ} {k:FuncId}
theorem aG.apart {l:List Value} {b:Nat} {L:List Value} (h:aG H v l) (hl:∀x∈l,¬Mg.ax x) (B:Bl H b L) (hL:∀x∈L,Mg.ax x):∀q,aU v q->q≠b:=by
 rintro q hq rfl;rcases h with⟨a,c,rfl,_⟩|⟨b',o,c,hne,rfl,h0,C,T,z,h1,h2,h3⟩
 ·cases a<;>simp[aU]at hq
 ·obtain⟨rfl,_⟩:=hq;obtain⟨T',h4⟩:=B;rw[h1]at h4
  cases h4
  match l,hne with
  |x::l',_=>
   have hx:x∈x::l':=List.mem_cons_self;rw[<-h3]at hx;exact hl x List.mem_cons_self (hL x (by simpa using List.mem_of_mem_drop (List.mem_of_mem_take hx)))
theorem Kw (l:List UInt64):∀x∈dV l,¬ax x:=by
 intro x hx;simp only[dV,List.mem_map]at hx;obtain⟨y,_,rfl⟩:=hx;exact fun h=>h
def xp (H:Hp) (q:Nat):Prop:=∃L,Bl H q L/\∀x∈L,ax x
theorem aS.YI {p:Nat->Bool} (h:aS H (.agg #[v]) p) {q:Nat} (hq:aU v q):¬xp H q:=by
 rintro⟨L,B,hL⟩;obtain⟨u,Ws,e,hv⟩:=h
 cases e
 exact hv.sl.apart (Kw _) B hL q hq rfl
def gK (P:Program) (k:FuncId):Prop:=∀(l:List Value) (v:Value) (H:Hp),aG H v l->(∀x∈l,ax x)->l.length<1000000->an P k #[v] H fun r H'=>bY H' r l/\(∀q,az r q->H.size<=q)/\af (fun _=>False) H H'
theorem Kx (hk:aq P k (zJ ι) zK 1):gK P k:=by
 intro l v H hv h1 hn;have ha:bQ l.toArray:=by
  intro x hx;exact aM (h1 x (by simpa using hx))
 refine ah hk (args:=[_]) (by simp) ?_;unfold zJ zK kA kB kC kV kc kY kZ;obtain⟨a,c,rfl,hc⟩:=hv.mk
 cases a with
 |none=>
  have h0:l=[]:=by
   rcases hv with⟨_,_,_,h⟩|⟨_,_,_,h,e,_⟩
   ·exact h
   ·simp at e
  subst h0;simp-implicitDefEqProofs only[go_sem,zS,↓reduceIte,Za,Zb,Zc,reduceCtorEq,ae];exact⟨bY.nil _,fun k h=>h.elim,af.refl _ _⟩
 |some p=>
  simp-implicitDefEqProofs only[go_sem,zS,↓reduceIte,Za,Zb,Zc,reduceCtorEq];refine aF fun H1 b1 e1 z1 B1 K1=>?_;have s1:=K1.size;simp-implicitDefEqProofs only[go_sem,zS,↓reduceIte,Za,Zb,Zc,reduceCtorEq];refine Jj H.size (l:=([]:List Value)) (m:=l) (bY.new B1 rfl rfl) (fun q (hq:q=b1)=>by omega) (by omega) (hv.ag K1 (by simp)) ha rfl (by omega) (by simp;omega) fun v3 H3 O3 own3 K3=>?_;simp-implicitDefEqProofs only[go_sem,zS,↓reduceIte,Za,Zb,Zc,reduceCtorEq,ae];exact⟨O3,own3,K1.lW K3 (Nat.le_refl _)⟩
theorem Ky {α:Type} {enc:α->List Value} (hl:∀x,(enc x).length=2) (h1:∀x,∀v∈enc x,v.oneCell'=true) (hk:aq P k (zL ι) zM 1):cP enc P k:=by
 intro l v H hv hn;refine ah hk (args:=[_]) (by simp) ?_;unfold zL zM kA kB kC kV kc kY kZ;obtain⟨a,c,rfl,hc⟩:=hv.mk
 cases a with
 |none=>
  have h0:l=[]:=by
   rcases hv with⟨_,_,_,h⟩|⟨_,_,_,_,h,_⟩
   ·exact h
   ·cases h
  subst h0;simp-implicitDefEqProofs only[go_sem,zS,↓reduceIte,Za,Zb,Zc,reduceCtorEq,ae];exact⟨dG.nil _,fun k h=>h.elim,af.refl _ _⟩
 |some p=>
  simp-implicitDefEqProofs only[go_sem,zS,↓reduceIte,Za,Zb,Zc,reduceCtorEq];refine aF fun H1 b1 e1 z1 B1 K1=>?_;have s1:=K1.size;simp-implicitDefEqProofs only[go_sem,zS,↓reduceIte,Za,Zb,Zc,reduceCtorEq];have pg:dG enc 2 H1 (.slice (some ⟨b1,0,none⟩) 0 0) []:=dG.bl B1 rfl (by omega) (by omega) (by simp);refine sJ (l:=([]:List α)) (m:=l) H.size hl h1 pg (fun q hq=>by have hq:q=b1:=hq;omega) (by omega) (hv.aj K1) rfl (by omega) (by simp;omega) fun v3 H3 O3 own3 K3=>?_;rw[List.nil_append]at O3;simp-implicitDefEqProofs only[go_sem,zS,↓reduceIte,Za,Zb,Zc,reduceCtorEq,ae];exact⟨O3,own3,K1.lW K3 (Nat.le_refl _)⟩
def qX (vs:List Value) (di sa:List gR) (ms:List MV) (fx:List Int) (n0:Nat) (i:Nat) (X:Hp) (v:Value):Prop:=match i with
 |31=>aG X v vs
 |34=>bo pE 2 X v di
 |37=>bo pE 2 X v sa
 |40=>bo eJ 2 X v ms
 |42=>aG X v (iL fx)
 |9=>∃b,v=.pointer (some ⟨b,0,none⟩)/\Bl X b [.slice none 0 0,.slice none 0 0,.slice none 0 0,.slice none 0 0,.slice none 0 0]/\n0<=b
 |_=>False
theorem qX.aj {vs:List Value} {di sa:List gR} {ms:List MV} {fx:List Int} {n0 i:Nat} {X X':Hp} (h:qX vs di sa ms fx n0 i X v) (hk:af (fun _=>False) X X'):qX vs di sa ms fx n0 i X' v:=by
 unfold qX at*
 split at h
 ·exact aG.ag h hk (by simp)
 ·exact bo.aj h hk
 ·exact bo.aj h hk
 ·exact bo.aj h hk
 ·exact aG.ag h hk (by simp)
 ·obtain⟨b,e,B,hb⟩:=h;exact⟨b,e,hk.bl B (by simp),hb⟩
 ·exact h
section
variable {vs:List Value} {di sa:List gR} {ms:List MV} {fx:List Int} {n0:Nat}
theorem qX.ag {i b:Nat} {X X':Hp} {v:Value} (h:qX vs di sa ms fx n0 i X v) (hi:i≠9) (hk:af (fun q=>q=b) X X') (hb:¬aU v b):qX vs di sa ms fx n0 i X' v:=by
 have jz:∀q,aU v q->¬q=b:=fun q hq e=>by rw[e]at hq;exact hb hq
 unfold qX at*
 split at h
 ·exact aG.ag h hk jz
 ·exact bo.ag h hk jz
 ·exact bo.ag h hk jz
 ·exact bo.ag h hk jz
 ·exact aG.ag h hk jz
 ·exact absurd rfl hi
 ·exact h
theorem qX.bM {i:Nat} {X:Hp} {v:Value} (h:qX vs di sa ms fx n0 i X v) (hi:i≠9) {q:Nat} (hq:aU v q):q<X.size:=by
 unfold qX at h
 split at h
 ·exact aG.bM h hq
 ·exact bo.bM h hq
 ·exact bo.bM h hq
 ·exact bo.bM h hq
 ·exact aG.bM h hq
 ·exact absurd rfl hi
 ·exact h.elim
theorem qX.ax {i:Nat} {X:Hp} {v:Value} (h:qX vs di sa ms fx n0 i X v) (hi:i≠9):ax v:=by
 unfold qX at h
 split at h
 ·exact aG.ax h
 ·exact bo.ax h
 ·exact bo.ax h
 ·exact bo.ax h
 ·exact aG.ax h
 ·exact absurd rfl hi
 ·exact h.elim
structure zN (vs:List Value) (di sa:List gR) (ms:List MV) (fx:List Int) (A X:Hp) (l:List (Nat×Value)):Prop where
 k:af (fun _=>False) A X
 v:∀p∈l,qX vs di sa ms fx A.size p.1 X p.2
 d:∀p∈l,∀b,(9,Value.pointer (some ⟨b,0,none⟩))∈l->p.1≠9->¬aU p.2 b
 o:∀p∈l,p.1≠9->∀q,aU p.2 q->A.size<=q
variable {P:Program} {A X:Hp} {l:List (Nat×Value)} {W:Nat->Prop} {e:Env} {f:Fr} {t m:T} {Q:Fr->Hp->Prop}
theorem zN.call (h:zN vs di sa ms fx A X l) {i a:Nat} {j:FuncId} {x:Value} (hi:i≠9) (hc:∀X,af (fun _=>False) A X->an P j #[x] X fun r X'=>qX vs di sa ms fx A.size i X' r/\(∀q,aU r q->X.size<=q)/\af (fun _=>False) X X') (he:look e a=x)
  (hK:∀v X',zN vs di sa ms fx A X' ((i,v)::l)->cK P W t ((i,v)::e) f X' Q) (hm:cK P W m e f X Q):cK P W (.wcons (.t i) none (.call j [.t a]) t m) e f X Q:=by
 rw[iy];refine⟨?_,hm⟩;simp only[EX.wp,List.map_cons,List.map_nil,vV,he];refine(hc X h.k).mono ?_;rintro r X' ⟨hr,ho,K⟩;rw[aK];refine⟨K.any,?_⟩;rw[oE,x9];refine hK r X' ⟨h.k.trans K,fun p hp=>?_,fun p hp b hb hne hq=>?_,fun p hp hne q hq=>?_⟩
 ·rcases List.mem_cons.1 hp with rfl|hp
  ·exact hr
  ·exact(h.v p hp).aj K
 ·have jz:(9,Value.pointer (some ⟨b,0,none⟩))∈l:=by
   rcases List.mem_cons.1 hb with e|hb
   ·exact absurd (congrArg Prod.fst e).symm hi
   ·exact hb
  rcases List.mem_cons.1 hp with rfl|hp
  ·have:=ho b hq;obtain⟨b',e,B,_⟩:∃b',Value.pointer (some ⟨b,0,none⟩)=.pointer (some ⟨b',0,none⟩)/\Bl X b' _/\A.size<=b':=h.v _ jz;simp only[Value.pointer.injEq,Option.some.injEq,Addr.mk.injEq,and_true]at e;subst e;have:=B.lt;omega
  ·exact h.d p hp b jz hne hq
 ·rcases List.mem_cons.1 hp with rfl|hp
  ·have:=ho q hq;have:=h.k.size;omega
  ·exact h.o p hp hne q hq
theorem zN.new (h:zN vs di sa ms fx A X l) (hn:∀p∈l,p.1≠9) {T:TypeId} (hK:∀b X',zN vs di sa ms fx A X' ((9,.pointer (some ⟨b,0,none⟩))::l)->cK P W t e (bN f 9 (.pointer (some ⟨b,0,none⟩))) X' Q) (hm:cK P W m e f X Q):
  cK P W (.wcons (.v 9) none (.new T #[.slice .none 0 0,.slice .none 0 0,.slice .none 0 0,.slice .none 0 0,.slice .none 0 0]) t m) e f X Q:=by
 rw[iy];refine⟨?_,hm⟩;have K:=(af.refl (fun _=>False) X).push (.cells #[.slice .none 0 0,.slice .none 0 0,.slice .none 0 0,.slice .none 0 0,.slice .none 0 0] T);have B:=Bl.cW X #[.slice .none 0 0,.slice .none 0 0,.slice .none 0 0,.slice .none 0 0,.slice .none 0 0] T;simp only[EX.wp];rw[aK];refine⟨K.any,?_⟩;refine hK X.size _ ⟨h.k.trans K,fun p hp=>?_,fun p hp b hb hne hq=>?_,fun p hp hne q hq=>?_⟩
 ·rcases List.mem_cons.1 hp with rfl|hp
  ·exact⟨X.size,rfl,B,h.k.size⟩
  ·exact(h.v p hp).aj K
 ·rcases List.mem_cons.1 hp with rfl|hp
  ·exact hne rfl
  ·rcases List.mem_cons.1 hb with e|hb
   ·simp only[Prod.mk.injEq,Value.pointer.injEq,Option.some.injEq,Addr.mk.injEq,and_true,true_and]at e;have:=(h.v p hp).bM hne hq;omega
   ·exact absurd rfl (hn _ hb)
 ·rcases List.mem_cons.1 hp with rfl|hp
  ·exact absurd rfl hne
  ·exact h.o p hp hne q hq
end
def YJ (vs:List Value) (di sa:List gR) (ms:List MV) (fx:List Int) (A:Hp) (f:Fr) (Q:Fr->Hp->Prop):Prop:=∀f' X' b v1 v2 v3 v4 v5,(∀j,j≠9->f' j=f j)->f' 9=.pointer (some ⟨b,0,none⟩)->A.size<=b->Bl X' b [v1,v2,v3,v4,v5]->aG X' v1 vs->bo pE 2 X' v2 di->bo pE 2 X' v3 sa->bo eJ 2 X' v4 ms->aG X' v5 (iL fx)->(∀v∈[v1,v2,v3,v4,v5],¬aU v b)->(∀v∈[v1,v2,v3,v4,v5],∀q,aU v q->A.size<=q)->af (fun _=>False) A X'->Q f' X'
theorem PC {P:Program} {ι:aJ} {vs:List Value} {di sa:List gR} {ms:List MV} {fx:List Int} {A X:Hp} {l:List (Nat×Value)} {e:Env} {f g:Fr} {Q:Fr->Hp->Prop} {b:Nat} {v1 v2 v3 v4 v5:Value} (hK:YJ vs di sa ms fx A f Q) (h:zN vs di sa ms fx A X l) (hg:∀j,j≠9->g j=f j) (g9:g 9=.pointer (some ⟨b,0,none⟩)) (m9:(9,.pointer (some ⟨b,0,none⟩))∈l)
  (e1:look e 31=v1) (e2:look e 34=v2) (e3:look e 37=v3) (e4:look e 40=v4) (e5:look e 42=v5) (m1:(31,v1)∈l) (m2:(34,v2)∈l) (m3:(37,v3)∈l) (m4:(40,v4)∈l) (m5:(42,v5)∈l):cK P (fun q=>A.size<=q) (pZ ι) e g X Q:=by
 have r1:=h.v _ m1;have r2:=h.v _ m2;have r3:=h.v _ m3;have r4:=h.v _ m4;have r5:=h.v _ m5;have d1:=h.d _ m1 b m9 (show(31:Nat)≠9 by decide);have d2:=h.d _ m2 b m9 (show(34:Nat)≠9 by decide);have d3:=h.d _ m3 b m9 (show(37:Nat)≠9 by decide);have d4:=h.d _ m4 b m9 (show(40:Nat)≠9 by decide);have d5:=h.d _ m5 b m9 (show(42:Nat)≠9 by decide);obtain⟨b',eb,B,hb⟩:∃b',Value.pointer (some ⟨b,0,none⟩)=.pointer (some ⟨b',0,none⟩)/\Bl X b' [.slice none 0 0,.slice none 0 0,.slice none 0 0,.slice none 0 0,.slice none 0 0]/\A.size<=b':=h.v _ m9;simp only[Value.pointer.injEq,Option.some.injEq,Addr.mk.injEq,and_true]at eb;subst eb;have K:af (fun q=>q=b) X (aA X ⟨b,0,none⟩ [v1,v2,v3,v4,v5]):=(af.refl _ _).aA _ (.inl rfl);have B':Bl (aA X ⟨b,0,none⟩ [v1,v2,v3,v4,v5]) b [v1,v2,v3,v4,v5]:=B.aA 0 [v1,v2,v3,v4,v5];have t:=B.bK (o:=0) (n:=5) (by simp);have q1:ax v1:=r1.ax (show(31:Nat)≠9 by decide);have q2:ax v2:=r2.ax (show(34:Nat)≠9 by decide);have q3:ax v3:=r3.ax (show(37:Nat)≠9 by decide);have q4:ax v4:=r4.ax (show(40:Nat)≠9 by decide);have q5:ax v5:=r5.ax (show(42:Nat)≠9 by decide);have fin:=hK g (aA X ⟨b,0,none⟩ [v1,v2,v3,v4,v5]) b v1 v2 v3 v4 v5 hg g9 hb B' (r1.ag (show(31:Nat)≠9 by decide) K d1) (r2.ag (show(34:Nat)≠9 by decide) K d2) (r3.ag (show(37:Nat)≠9 by decide) K d3) (r4.ag (show(40:Nat)≠9 by decide) K d4) (r5.ag (show(42:Nat)≠9 by decide) K d5) (fun v hv=>by
  simp only[List.mem_cons,List.not_mem_nil,or_false]at hv;rcases hv with rfl|rfl|rfl|rfl|rfl<;>assumption) (fun v hv=>by
  simp only[List.mem_cons,List.not_mem_nil,or_false]at hv;rcases hv with rfl|rfl|rfl|rfl|rfl
  ·exact h.o _ m1 (show(31:Nat)≠9 by decide)
  ·exact h.o _ m2 (show(34:Nat)≠9 by decide)
  ·exact h.o _ m3 (show(37:Nat)≠9 by decide)
  ·exact h.o _ m4 (show(40:Nat)≠9 by decide)
  ·exact h.o _ m5 (show(42:Nat)≠9 by decide)) (h.k.trans' K fun q hq e=>by omega)
 unfold pZ kW kb kZ;obtain⟨s1,rfl⟩:=fA q1;obtain⟨s2,rfl⟩:=fA q2;obtain⟨s3,rfl⟩:=fA q3;obtain⟨s4,rfl⟩:=fA q4;obtain⟨s5,rfl⟩:=fA q5;unfold mJ at*;have ha:bQ #[Value.slice s1.1 s1.2.1 s1.2.2,.slice s2.1 s2.2.1 s2.2.2,.slice s3.1 s3.2.1 s3.2.2,.slice s4.1 s4.2.1 s4.2.2,.slice s5.1 s5.2.1 s5.2.2]:=bE rfl;simp-implicitDefEqProofs only[go_sem,zS,↓reduceIte,Za,Zb,Zc,reduceCtorEq,zU,zV,Zf,Zg,Zh,Zi,Zd,Ze,zF,e1,e2,e3,e4,e5,g9,t];refine⟨⟨rfl,ha⟩,K.mono fun q _ e=>?_,fin⟩;omega
theorem PD {P:Program} {ι:aJ} {vs:List Value} {di sa:List gR} {ms:List MV} {fx:List Int} {A X:Hp} {l:List (Nat×Value)} {e:Env} {f g:Fr} {Q:Fr->Hp->Prop} {v1 v2 v3 v4 v5:Value} (hK:YJ vs di sa ms fx A f Q) (h:zN vs di sa ms fx A X l) (hg:∀j,j≠9->g j=f j) (hn:∀p∈l,p.1≠9)
  (e1:look e 31=v1) (e2:look e 34=v2) (e3:look e 37=v3) (e4:look e 40=v4) (e5:look e 42=v5) (m1:(31,v1)∈l) (m2:(34,v2)∈l) (m3:(37,v3)∈l) (m4:(40,v4)∈l) (m5:(42,v5)∈l):cK P (fun q=>A.size<=q) (GC ι) e g X Q:=by
 have n1:(31:Nat)≠9:=by decide
 have n2:(34:Nat)≠9:=by decide
 have n3:(37:Nat)≠9:=by decide
 have n4:(40:Nat)≠9:=by decide
 have n5:(42:Nat)≠9:=by decide
 have r1:=h.v _ m1;have r2:=h.v _ m2;have r3:=h.v _ m3;have r4:=h.v _ m4;have r5:=h.v _ m5;have q1:ax v1:=r1.ax n1;have q2:ax v2:=r2.ax n2;have q3:ax v3:=r3.ax n3;have q4:ax v4:=r4.ax n4;have q5:ax v5:=r5.ax n5;have x1:¬aU v1 X.size:=fun hq=>absurd (r1.bM n1 hq) (by omega);have x2:¬aU v2 X.size:=fun hq=>absurd (r2.bM n2 hq) (by omega);have x3:¬aU v3 X.size:=fun hq=>absurd (r3.bM n3 hq) (by omega);have x4:¬aU v4 X.size:=fun hq=>absurd (r4.bM n4 hq) (by omega);have x5:¬aU v5 X.size:=fun hq=>absurd (r5.bM n5 hq) (by omega);obtain⟨s1,rfl⟩:=fA q1;obtain⟨s2,rfl⟩:=fA q2;obtain⟨s3,rfl⟩:=fA q3;obtain⟨s4,rfl⟩:=fA q4;obtain⟨s5,rfl⟩:=fA q5;unfold mJ at*;have ha:bQ #[Value.slice s1.1 s1.2.1 s1.2.2,.slice s2.1 s2.2.1 s2.2.2,.slice s3.1 s3.2.1 s3.2.2,.slice s4.1 s4.2.1 s4.2.2,.slice s5.1 s5.2.1 s5.2.2]:=bE rfl;have hs:=h.k.size;have main:∀(T:TypeId),bK (X.push (.cells #[.slice .none 0 0,.slice .none 0 0,.slice .none 0 0,.slice .none 0 0,.slice .none 0 0] T)) ⟨X.size,0,none⟩ 5/\af (fun q=>A.size<=q) X (X.push (.cells #[.slice .none 0 0,.slice .none 0 0,.slice .none 0 0,.slice .none 0 0,.slice .none 0 0] T))∧
   af (fun q=>A.size<=q) (X.push (.cells #[.slice .none 0 0,.slice .none 0 0,.slice .none 0 0,.slice .none 0 0,.slice .none 0 0] T)) (aA (X.push (.cells #[.slice .none 0 0,.slice .none 0 0,.slice .none 0 0,.slice .none 0 0,.slice .none 0 0] T)) ⟨X.size,0,none⟩ [Value.slice s1.1 s1.2.1 s1.2.2,.slice s2.1 s2.2.1 s2.2.2,.slice s3.1 s3.2.1 s3.2.2,.slice s4.1 s4.2.1 s4.2.2,.slice s5.1 s5.2.1 s5.2.2])∧
   Q (bN g 9 (.pointer (some ⟨X.size,0,none⟩))) (aA (X.push (.cells #[.slice .none 0 0,.slice .none 0 0,.slice .none 0 0,.slice .none 0 0,.slice .none 0 0] T)) ⟨X.size,0,none⟩ [Value.slice s1.1 s1.2.1 s1.2.2,.slice s2.1 s2.2.1 s2.2.2,.slice s3.1 s3.2.1 s3.2.2,.slice s4.1 s4.2.1 s4.2.2,.slice s5.1 s5.2.1 s5.2.2]):=fun T=>by
  have K0:=(af.refl (fun _=>False) X).push (.cells #[.slice .none 0 0,.slice .none 0 0,.slice .none 0 0,.slice .none 0 0,.slice .none 0 0] T);have B:=Bl.cW X #[.slice .none 0 0,.slice .none 0 0,.slice .none 0 0,.slice .none 0 0,.slice .none 0 0] T;generalize X.push (.cells #[.slice .none 0 0,.slice .none 0 0,.slice .none 0 0,.slice .none 0 0,.slice .none 0 0] T)=X1 at K0 B⊢;have K:af (fun q=>q=X.size) X1 (aA X1 ⟨X.size,0,none⟩ [Value.slice s1.1 s1.2.1 s1.2.2,.slice s2.1 s2.2.1 s2.2.2,.slice s3.1 s3.2.1 s3.2.2,.slice s4.1 s4.2.1 s4.2.2,.slice s5.1 s5.2.1 s5.2.2]):=(af.refl _ _).aA _ (.inl rfl);have B':=B.aA 0 [Value.slice s1.1 s1.2.1 s1.2.2,.slice s2.1 s2.2.1 s2.2.2,.slice s3.1 s3.2.1 s3.2.2,.slice s4.1 s4.2.1 s4.2.2,.slice s5.1 s5.2.1 s5.2.2];refine⟨B.bK (o:=0) (n:=5) (by simp),K0.any,K.mono fun q _ e=>by omega,hK _ _ X.size _ _ _ _ _ (fun j hj=>?_) (by simp only[bN,if_true]) hs B' ((r1.aj K0).ag n1 K x1) ((r2.aj K0).ag n2 K x2) ((r3.aj K0).ag n3 K x3) ((r4.aj K0).ag n4 K x4) ((r5.aj K0).ag n5 K x5) (fun v hv=>?_) (fun v hv=>?_) ((h.k.trans K0).trans' K fun q hq e=>by omega)⟩
  ·rw[<-hg j hj];simp only[bN,hj,if_false]
  ·simp only[List.mem_cons,List.not_mem_nil,or_false]at hv;rcases hv with rfl|rfl|rfl|rfl|rfl<;>assumption
  ·simp only[List.mem_cons,List.not_mem_nil,or_false]at hv;rcases hv with rfl|rfl|rfl|rfl|rfl
   ·exact h.o _ m1 n1
   ·exact h.o _ m2 n2
   ·exact h.o _ m3 n3
   ·exact h.o _ m4 n4
   ·exact h.o _ m5 n5
 unfold GC kW kb kZ;obtain⟨t,k1,k2,fin⟩:=main (ι.t 358);simp-implicitDefEqProofs only[go_sem,zS,↓reduceIte,Za,Zb,Zc,reduceCtorEq,zU,zV,Zf,Zg,Zh,Zi,Zd,Ze,zF,e1,e2,e3,e4,e5,t];exact⟨k1,⟨rfl,ha⟩,k2,fin⟩
theorem PE {P:Program} {ι:aJ} (hB:gK P (ι.f 374)) (hP:cP pE P (ι.f 204)) (hM:cP eJ P (ι.f 375)) (hI:dA P (ι.f 159)) {vs:List Value} {F:jn} {ms:List MV} {fx:List Int} {f:Fr} {A:Hp} {b3:Nat} {s b d a m v1 v2:Value} {Qb:Ex->Fr->Hp->Prop}
  (h1:f 1=v1) (h2:f 2=v2) (h3:f 3=.pointer (some ⟨b3,0,none⟩)) (B3:Bl A b3 [s,b,d,a,m]) (hd:sN A d F.di) (ha:sN A a F.sa) (hm:bo eJ 2 A m ms) (hv1:aG A v1 vs) (hv2:aG A v2 (iL fx)) (hvs:∀x∈vs,ax x) (l1:vs.length<=1000) (l2:F.di.length<=1000) (l3:F.sa.length<=1000) (l4:ms.length<=1000) (l5:fx.length<=1000)
  (hK:YJ vs F.di F.sa ms fx A f (Qb .n)):vc P (GD ι) Qb f A:=by
 unfold GD kW ka kg kZ;have c2:cell A ⟨b3,2,none⟩=some d:=by rw[B3.cell];rfl
 have c3:cell A ⟨b3,3,none⟩=some a:=by rw[B3.cell];rfl
 have c4:cell A ⟨b3,4,none⟩=some m:=by rw[B3.cell];rfl
 have lt:=B3.lt;have hlt:(A.size<=b3)=False:=eq_false (by omega);refine bC (fun q=>A.size<=q) ?_;have s0:zN vs F.di F.sa ms fx A A []:=⟨af.refl _ _,by simp,by simp,by simp⟩
 have C1:∀X,af (fun _=>False) A X->an P (ι.f 374) #[v1] X fun r X'=>qX vs F.di F.sa ms fx A.size 31 X' r/\(∀q,aU r q->X.size<=q)/\af (fun _=>False) X X':=fun X K=>(hB vs v1 X (hv1.ag K (by simp)) hvs (by omega)).mono fun r X' ⟨O,o,K'⟩=>⟨O.sl,fun q hq=>o q (O.aU hq),K'⟩
 have C2:∀X,af (fun _=>False) A X->an P (ι.f 204) #[d] X fun r X'=>qX vs F.di F.sa ms fx A.size 34 X' r/\(∀q,aU r q->X.size<=q)/\af (fun _=>False) X X':=fun X K=>(hP F.di d X (hd.aj K) (by omega)).mono fun r X' ⟨O,o,K'⟩=>⟨O.sl,fun q hq=>o q (O.aU hq),K'⟩
 have C3:∀X,af (fun _=>False) A X->an P (ι.f 204) #[a] X fun r X'=>qX vs F.di F.sa ms fx A.size 37 X' r/\(∀q,aU r q->X.size<=q)/\af (fun _=>False) X X':=fun X K=>(hP F.sa a X (ha.aj K) (by omega)).mono fun r X' ⟨O,o,K'⟩=>⟨O.sl,fun q hq=>o q (O.aU hq),K'⟩
 have C4:∀X,af (fun _=>False) A X->an P (ι.f 375) #[m] X fun r X'=>qX vs F.di F.sa ms fx A.size 40 X' r/\(∀q,aU r q->X.size<=q)/\af (fun _=>False) X X':=fun X K=>(hM ms m X (hm.aj K) (by omega)).mono fun r X' ⟨O,o,K'⟩=>⟨O.sl,fun q hq=>o q (O.aU hq),K'⟩
 have C5:∀X,af (fun _=>False) A X->an P (ι.f 159) #[v2] X fun r X'=>qX vs F.di F.sa ms fx A.size 42 X' r/\(∀q,aU r q->X.size<=q)/\af (fun _=>False) X X':=fun X K=>(hI fx v2 X (hv2.ag K (by simp)) (by omega)).mono fun r X' ⟨O,o,K'⟩=>⟨O.sl,fun q hq=>o q (O.aU hq),K'⟩
 rw[cI,cI,cI,cI,cI,cI,cI,cI];refine⟨trivial,by simp-implicitDefEqProofs only[go_sem,zS,↓reduceIte,Za,Zb,Zc,reduceCtorEq,zU,zV,Zf,Zg,Zh,Zi,Zd,Ze,zF,h3],by simp-implicitDefEqProofs only[go_sem,zS,↓reduceIte,Za,Zb,Zc,reduceCtorEq,zU,zV,Zf,Zg,Zh,Zi,Zd,Ze,zF,h3,c2,hlt],by simp-implicitDefEqProofs only[go_sem,zS,↓reduceIte,Za,Zb,Zc,reduceCtorEq,zU,zV,Zf,Zg,Zh,Zi,Zd,Ze,zF,h3],by simp-implicitDefEqProofs only[go_sem,zS,↓reduceIte,Za,Zb,Zc,reduceCtorEq,zU,zV,Zf,Zg,Zh,Zi,Zd,Ze,zF,h3,c3,hlt],by simp-implicitDefEqProofs only[go_sem,zS,↓reduceIte,Za,Zb,Zc,reduceCtorEq,zU,zV,Zf,Zg,Zh,Zi,Zd,Ze,zF,h3],by simp-implicitDefEqProofs only[go_sem,zS,↓reduceIte,Za,Zb,Zc,reduceCtorEq,zU,zV,Zf,Zg,Zh,Zi,Zd,Ze,zF,h3,c4,hlt],trivial,?_⟩;simp only[PX.val,oD,vV,oE,x9,aV,h1,h2,h3,jK,sD,AT,c2,c3,c4,if_true,if_false,Nat.zero_add,Za,Option.getD_some,Zb]
 repeat' (first|exact trivial|exact PD hK (by assumption) (fun j hj=>by simp only[bN,hj,if_false]) (by simp) rfl rfl rfl rfl rfl (by simp[aV]) (by simp[aV]) (by simp[aV]) (by simp[aV]) (by simp[aV])|exact PC hK (by assumption) (fun j hj=>by simp only[bN,hj,if_false]) rfl (by simp) rfl rfl rfl rfl rfl (by simp[aV]) (by simp[aV]) (by simp[aV]) (by simp[aV]) (by simp[aV])|refine zN.call (by assumption) (show(31:Nat)≠9 by decide) C1 rfl (fun _ _ _=>?_) ?_|refine zN.call (by assumption) (show(34:Nat)≠9 by decide) C2 rfl (fun _ _ _=>?_) ?_|refine zN.call (by assumption) (show(37:Nat)≠9 by decide) C3 rfl (fun _ _ _=>?_) ?_|refine zN.call (by assumption) (show(40:Nat)≠9 by decide) C4 rfl (fun _ _ _=>?_) ?_|refine zN.call (by assumption) (show(42:Nat)≠9 by decide) C5 rfl (fun _ _ _=>?_) ?_|refine zN.new (by assumption) (by simp) (fun _ _ _=>?_) ?_)
def fixF (n:Nat) (fx:List Int):List Int:=if fx=[]then List.replicate n 0 else fx
def dg (P:Program) (ι:aJ) (k:FuncId):Prop:=∀(F:jn) (el:List (Nat->Bool)) (vs:List Value) (fx:List Int) (v ev xv:Value) (H0 H:Hp),af (fun _=>False) H0 H->cC H0 v F->aG H0 ev vs->vs.length=el.length->F.st.length=el.length->(∀i<vs.length,aS H0 (.agg #[vs.getD i undef]) ((⟨el,F.di,F.sa,F.mo⟩:eX).el.getD i fun _=>false))->aG H0 xv (iL fx)->(fx=[]\/fx.length=el.length)→
 cD ⟨el,F.di,F.sa,F.mo⟩->jV el.length (fixF el.length fx)->an P k #[v,ev,xv] H fun r H'=>∃pv,r=.tuple #[pv,.int .i64 0]/\(∀X W,af W H' X->(∀q,W q->q<H.size/\(H0.size<=q\/xp H q))->dE X pv ⟨el,F.di,F.sa,F.mo⟩ (fixF el.length fx))/\af (fun _=>False) H H'
def rP (P:Program) (ι:aJ) (k:FuncId):Prop:=∀(F:jn) (el:List (Nat->Bool)) (vs:List Value) (fx:List Int) (v ev xv:Value) (H0 H:Hp),af (fun _=>False) H0 H->cC H0 v F->aG H0 ev vs->vs.length=el.length->F.st.length=el.length->(∀i<vs.length,aS H0 (.agg #[vs.getD i undef]) ((⟨el,F.di,F.sa,F.mo⟩:eX).el.getD i fun _=>false))->aG H0 xv (iL fx)->(fx=[]\/fx.length=el.length)→
 cD ⟨el,F.di,F.sa,F.mo⟩->jV el.length (fixF el.length fx)->an P k #[v,ev,xv] H fun r H'=>∃pv,r=.tuple #[pv,.int .i64 0]/\(∀X W,af W H' X->(∀q,W q->H0.size<=q/\q<H.size)->dE X pv ⟨el,F.di,F.sa,F.mo⟩ (fixF el.length fx))/\af (fun _=>False) H H'
theorem dg.yd {P:Program} {ι:aJ} {k:FuncId} (h:dg P ι k):rP P ι k:=by
 intro F el vs fx v ev xv H0 H a b c d e f g i j l;refine(h F el vs fx v ev xv H0 H a b c d e f g i j l).mono ?_;rintro r H' ⟨pv,h1,h2,h3⟩;exact⟨pv,h1,fun X W K hW=>h2 X W K fun q hq=>⟨(hW q hq).2,.inl (hW q hq).1⟩,h3⟩
structure Ti (P:Program) (ι:aJ):Prop where
 B:gK P (ι.f 374)
 P':cP pE P (ι.f 204)
 M:cP eJ P (ι.f 375)
 I:dA P (ι.f 159)
 BR:fg P ι (ι.f 360)
theorem GH {P:Program} {ι:aJ} (c:Ti P ι) {F:jn} {el:List (Nat->Bool)} {vs:List Value} {fx:List Int} {ms:List MV} {f:Fr} {H0 A:Hp} {b3 b6:Nat} {s b d a m ev xv z1 z2 z3 z4 z5:Value} {Qb:Ex->Fr->Hp->Prop}
  (f1:f 1=ev) (f2:f 2=xv) (f3:f 3=.pointer (some ⟨b3,0,none⟩)) (f6:f 6=.pointer (some ⟨b6,0,none⟩)) (f8:f 8=.int .i64 (el.length:Int)) (B3:Bl A b3 [s,b,d,a,m]) (B6:Bl A b6 [z1,z2,z3,z4,z5])
  (hd:sN A d F.di) (ha:sN A a F.sa) (hm:bo eJ 2 A m ms) (K0:af (fun _=>False) H0 A) (h06:H0.size<=b6) (hr:mE H0 ms F.mo) (hev:aG A ev vs) (hvl:vs.length=el.length) (hes:∀i<vs.length,aS H0 (.agg #[vs.getD i undef]) (bS ⟨el,F.di,F.sa,F.mo⟩ i)) (hvs:∀x∈vs,ax x) (hxv:aG A xv (iL fx)) (hfx:fx=[]\/fx.length=el.length)
  (hG:cD ⟨el,F.di,F.sa,F.mo⟩) (hU:jV el.length (fixF el.length fx))
  (hK:∀f' A' w1 w2 w3 w4 w5,f' 6=.pointer (some ⟨b6,0,none⟩)->f' 7=.int .i64 0->Bl A' b6 [w1,w2,w3,w4,w5]->(∀X W,af W A' X->(∀q,W q->q<A.size/\(H0.size<=q\/xp A q))->dE X (.agg #[w1,w2,w3,w4,w5]) ⟨el,F.di,F.sa,F.mo⟩ (fixF el.length fx))->af (fun q=>q=b6) A A'->Qb .r f' A'):vc P (GG ι) Qb f A:=by
 unfold GG kA kG kL kV kc kf kY;have hn:el.length<=10:=hG.n;have hn0:0<el.length:=hG.n0;have MF:F.di.length<=20:=hG.dl;have hsl:F.sa.length<=20:=hG.sl;have JN:F.mo.length<=20:=hG.ml;have YK:=hr.len;have lx:aP xv=fx.length:=by rw[hxv.len,ak]
 have aaA:=B6.lt;have SY:fx.length<=1000:=by rcases hfx with rfl|h;simp;omega
 have mkP:∀(X:Hp) (W:Nat->Prop) (w1 w2 w3 w4 w5:Value),aG X w1 vs->bo pE 2 X w2 F.di->bo pE 2 X w3 F.sa->bo eJ 2 X w4 ms->aG X w5 (iL (fixF el.length fx))->af W A X->(∀q,W q->H0.size<=q\/xp A q)->dE X (.agg #[w1,w2,w3,w4,w5]) ⟨el,F.di,F.sa,F.mo⟩ (fixF el.length fx):=fun X W w1 w2 w3 w4 w5 g1 g2 g3 g4 g5 K hW=>by
  have off:∀{v:Value} {p:Nat->Bool},aS H0 (.agg #[v]) p->∀q,aU v q->¬W q:=fun{v p} h q hq hw=>by
   rcases hW q hw with h1|h1
   ·have:=aS.bM (k:=q) h hq;omega
   ·exact(h.aj K0).YI hq h1
  exact⟨w1,w2,w3,w4,w5,vs,ms,rfl,g1,hvl,fun i hi=>((hes i hi).aj K0).ag K (off (hes i hi)),g2,g3,g4,(hr.aj K0).ag K fun x hx q hq=>by
   obtain⟨i,hi,rfl⟩:=List.getElem_of_mem hx;exact off (hr.at_ i hi (by rw[<-hr.len];exact hi)).2 q hq,g5⟩
 -- the end, from a problem that stands in block b9
 have last:∀(g:Fr) (X:Hp) (b9:Nat) (w1 w2 w3 w4 w5:Value),g 6=.pointer (some ⟨b6,0,none⟩)->g 9=.pointer (some ⟨b9,0,none⟩)->Bl X b9 [w1,w2,w3,w4,w5]->aG X w1 vs->bo pE 2 X w2 F.di->bo pE 2 X w3 F.sa->bo eJ 2 X w4 ms->aG X w5 (iL (fixF el.length fx))->(∀v∈[w1,w2,w3,w4,w5],∀q,aU v q->A.size<=q)->af (fun _=>False) A X->vc P (GF ι) Qb g X:=fun g X b9 w1 w2 w3 w4 w5 g6 g9 B9 i1 i2 i3 i4 i5 ow KX=>by
  unfold GF kA kB kC kM kU kV kc kf kg kY kZ;have PX:=mkP X (fun _=>False) w1 w2 w3 w4 w5 i1 i2 i3 i4 i5 KX fun _ h=>h.elim;have l9:aI X (.pointer (some ⟨b9,0,none⟩)) 5=some #[w1,w2,w3,w4,w5]:=B9.aI 5 rfl;simp-implicitDefEqProofs only[go_sem,zS,↓reduceIte,Za,Zb,Zc,reduceCtorEq,zU,zV,Zf,Zg,Zh,Zi,Zd,Ze,zF,g9,l9];refine(c.BR _ _ _ X PX hG hU).mono ?_;rintro r X1 ⟨rfl,K1⟩;have xS:((0:Int)!=0)=false:=rfl;have Vh:=K1.bl B9 (by simp);have l9:aI X1 (.pointer (some ⟨b9,0,none⟩)) 5=some #[w1,w2,w3,w4,w5]:=Vh.aI 5 rfl;have B61:=(KX.trans K1).bl B6 (by simp);have t6:=B61.bK (o:=0) (n:=5) (by simp);have K6:af (fun q=>q=b6) X1 (aA X1 ⟨b6,0,none⟩ [w1,w2,w3,w4,w5]):=(af.refl _ _).aA _ (.inl rfl);have ID:Bl (aA X1 ⟨b6,0,none⟩ [w1,w2,w3,w4,w5]) b6 [w1,w2,w3,w4,w5]:=B61.aA 0 [w1,w2,w3,w4,w5];have ha:bQ #[w1,w2,w3,w4,w5]:=bE (by simp only[List.all_cons,List.all_nil,aM i1.ax,aM i2.ax,aM i3.ax,aM i4.ax,aM i5.ax];rfl);have nb:∀v∈[w1,w2,w3,w4,w5],∀q,aU v q->¬q=b6:=fun v hv q hq e=>by have:=ow v hv q hq;omega
  have KF:=((KX.trans K1).any).trans K6;have PF:∀X' W,af W (aA X1 ⟨b6,0,none⟩ [w1,w2,w3,w4,w5]) X'->(∀q,W q->q<A.size/\(H0.size<=q\/xp A q))->dE X' (.agg #[w1,w2,w3,w4,w5]) ⟨el,F.di,F.sa,F.mo⟩ (fixF el.length fx):=fun X' W KW hW=>by
   have nw:∀v∈[w1,w2,w3,w4,w5],∀q,aU v q->¬W q:=fun v hv q hq h=>by have:=ow v hv q hq;have:=(hW q h).1;omega
   exact mkP X' (fun q=>q=b6\/W q) w1 w2 w3 w4 w5 (((i1.ag K1 (by simp)).ag K6 (nb w1 (by simp))).ag KW (nw w1 (by simp))) (((i2.aj K1).ag K6 (nb w2 (by simp))).ag KW (nw w2 (by simp))) (((i3.aj K1).ag K6 (nb w3 (by simp))).ag KW (nw w3 (by simp))) (((i4.aj K1).ag K6 (nb w4 (by simp))).ag KW (nw w4 (by simp))) (((i5.ag K1 (by simp)).ag K6 (nb w5 (by simp))).ag KW (nw w5 (by simp))) ((KF.mono fun q _ e=>.inl e).trans (KW.mono fun q _ h=>.inr h)) (fun q hq=>by
    rcases hq with rfl|hq
    ·exact .inl h06
    ·exact(hW q hq).2)
  rw[ae];simp-implicitDefEqProofs only[go_sem,zS,↓reduceIte,Za,Zb,Zc,reduceCtorEq,zU,zV,Zf,Zg,Zh,Zi,Zd,Ze,zF,xS,g6,g9,l9,t6];refine⟨ha,?_⟩;rw[ae];simp-implicitDefEqProofs only[go_sem,zS,↓reduceIte,Za,Zb,Zc,reduceCtorEq,zU,zV,Zf,Zg,Zh,Zi,Zd,Ze,zF];exact hK _ _ w1 w2 w3 w4 w5 (by simp-implicitDefEqProofs only[go_sem,zS,↓reduceIte,Za,Zb,Zc,reduceCtorEq,ae,zU,zV,Zf,Zg,Zh,Zi,Zd,Ze,g6]) (by simp-implicitDefEqProofs only[go_sem,zS,↓reduceIte,Za,Zb,Zc,reduceCtorEq,ae,zU,zV,Zf,Zg,Zh,Zi,Zd,Ze]) ID PF KF
 simp-implicitDefEqProofs only[go_sem,zS,↓reduceIte,Za,Zb,Zc,reduceCtorEq,zU,zV,Zf,Zg,Zh,Zi,Zd,Ze,zF];refine PE c.B c.P' c.M c.I (F:=F) f1 f2 f3 B3 hd ha hm hev hxv hvs (by omega) (by omega) (by omega) (by omega) SY ?_;intro g X b9 v1 v2 v3 v4 v5 hg g9 hb9 B9 i1 i2 i3 i4 i5 nd ow KX;have g2:g 2=xv:=by rw[hg 2 (by decide),f2]
 have g6:g 6=.pointer (some ⟨b6,0,none⟩):=by rw[hg 6 (by decide),f6]
 have g8:g 8=.int .i64 (el.length:Int):=by rw[hg 8 (by decide),f8]
 rcases hfx with e|e
 ·have d1:((fx.length:Int)==0)=true:=by rw[e];rfl
  have YL:fixF el.length fx=List.replicate el.length 0:=by unfold fixF;rw[if_pos e]
  simp-implicitDefEqProofs only[go_sem,zS,↓reduceIte,Za,Zb,Zc,reduceCtorEq,zU,zV,Zf,Zg,Zh,Zi,Zd,Ze,zF,g2,hxv.ax,lx,d1,g8];refine⟨⟨by omega,by omega,by unfold maxLen;omega⟩,?_⟩;refine aF fun X1 bz ez zz Bz Kz=>?_;rw[cx,oF]at Bz;have Vh:=Kz.bl B9 (by simp);have t9:=Vh.bk (o:=4) (by simp);have B92:=Vh.al 4 (.slice (some ⟨bz,0,none⟩) el.length el.length);have K9:af (fun q=>q=b9) X1 (al X1 ⟨b9,4,none⟩ (.slice (some ⟨bz,0,none⟩) el.length el.length)):=(af.refl _ _).al _ (.inl rfl);have sX:=KX.size;have aaB:=B9.lt;have hz:aG X1 (.slice (some ⟨bz,0,none⟩) el.length el.length) (iL (List.replicate el.length 0)):=by
   have:=(bY.new (n:=el.length) (c:=el.length) Bz (by simp[ak]) rfl).sl;exact this
  have Vi:∀v∈[v1,v2,v3,v4,v5],∀q,aU v q->¬q=b9:=fun v hv q hq e=>by rw[e]at hq;exact nd v hv hq
  simp-implicitDefEqProofs only[go_sem,zS,↓reduceIte,Za,Zb,Zc,reduceCtorEq,zU,zV,Zf,Zg,Zh,Zi,Zd,Ze,zF,g9,t9];rw[ae];simp-implicitDefEqProofs only[go_sem,zS,↓reduceIte,Za,Zb,Zc,reduceCtorEq,zU,zV,Zf,Zg,Zh,Zi,Zd,Ze,zF];refine last _ _ b9 v1 v2 v3 v4 _ (by simp-implicitDefEqProofs only[go_sem,zS,↓reduceIte,Za,Zb,Zc,reduceCtorEq,ae,zU,zV,Zf,Zg,Zh,Zi,Zd,Ze,g6]) (by simp-implicitDefEqProofs only[go_sem,zS,↓reduceIte,Za,Zb,Zc,reduceCtorEq,ae,zU,zV,Zf,Zg,Zh,Zi,Zd,Ze,g9]) B92 ((i1.ag Kz (by simp)).ag K9 (Vi v1 (by simp))) ((i2.aj Kz).ag K9 (Vi v2 (by simp))) ((i3.aj Kz).ag K9 (Vi v3 (by simp))) ((i4.aj Kz).ag K9 (Vi v4 (by simp))) ?_ ?_ ((KX.trans Kz).trans' K9 fun q hq e=>by omega)
  ·rw[YL];exact hz.ag K9 fun q hq e'=>by have:=hq.1;simp only at this;omega
  ·intro v hv q hq;simp only[List.mem_cons,List.not_mem_nil,or_false]at hv;rcases hv with rfl|rfl|rfl|rfl|rfl
   ·exact ow _ (by simp) q hq
   ·exact ow _ (by simp) q hq
   ·exact ow _ (by simp) q hq
   ·exact ow _ (by simp) q hq
   ·have:=hq.1;simp only at this;omega
 ·have hne:fx≠[]:=by rintro rfl;simp at e;omega
  have d1:((fx.length:Int)==0)=false:=by rw[beq_eq_false_iff_ne];omega
  have YL:fixF el.length fx=fx:=by unfold fixF;rw[if_neg hne]
  simp-implicitDefEqProofs only[go_sem,zS,↓reduceIte,Za,Zb,Zc,reduceCtorEq,zU,zV,Zf,Zg,Zh,Zi,Zd,Ze,zF,g2,hxv.ax,lx,d1];exact last _ X b9 v1 v2 v3 v4 v5 (by simp-implicitDefEqProofs only[go_sem,zS,↓reduceIte,Za,Zb,Zc,reduceCtorEq,ae,zU,zV,Zf,Zg,Zh,Zi,Zd,Ze,g6]) (by simp-implicitDefEqProofs only[go_sem,zS,↓reduceIte,Za,Zb,Zc,reduceCtorEq,ae,zU,zV,Zf,Zg,Zh,Zi,Zd,Ze,g9]) B9 i1 i2 i3 i4 (by rw[YL];exact i5) ow KX
theorem GI {P:Program} {ι:aJ} {k:FuncId} (hk:aq P k (uL ι) uM 3) (c:Ti P ι):dg P ι k:=by
 intro F el vs fx v ev xv H0 H KH0 hv hev hvl hst hes hxv hfx hG hU;obtain⟨s,b,d,a,m,ms,rfl,h1,h2,h3,h4,h5,h6⟩:=hv;refine qI fun Q hQ=>?_;refine ah hk (args:=[_,_,_]) (by simp) ?_;unfold uL uM kA kB kF kC kD kG kL kR kS kT kU kV kd kf kY kZ;have hn:el.length<=10:=hG.n;have hn0:0<el.length:=hG.n0;have MF:F.di.length<=20:=hG.dl;have hsl:F.sa.length<=20:=hG.sl;have JN:F.mo.length<=20:=hG.ml;have YK:=h6.len;have hvs:∀x∈vs,ax x:=fun x hx=>by
  obtain⟨i,hi,rfl⟩:=List.getElem_of_mem hx;obtain⟨u,W,e,hV⟩:=hes i hi;rw[List.getD_eq_getElem?_getD,List.getElem?_eq_getElem hi,Option.getD_some]at e
  cases e
  exact hV.sl.ax
 simp-implicitDefEqProofs only[go_sem,zS,↓reduceIte,Za,Zb,Zc,reduceCtorEq,zU,zV,Zf,Zg,Zh,Zi,Zd,Ze,zF];refine ay fun H1 b3 e1 z1 B1 K1=>?_;have eB:Bl H1 b3 [s,b,d,a,m]:=B1;simp-implicitDefEqProofs only[go_sem,zS,↓reduceIte,Za,Zb,Zc,reduceCtorEq,zU,zV,Zf,Zg,Zh,Zi,Zd,Ze,zF];refine ay fun H2 b6 e2 z2 B2 K2=>?_;have vt:Bl H2 b6 [.slice none 0 0,.slice none 0 0,.slice none 0 0,.slice none 0 0,.slice none 0 0]:=B2;have fy:=K1.trans K2;have nO:=K2.bl eB (by simp);have c0:cell H2 ⟨b3,0,none⟩=some s:=by rw[nO.cell];rfl
 have ls:aP s=el.length:=by rw[h1.len,hst]
 have le:aP ev=el.length:=by rw[hev.len,hvl]
 have lx:aP xv=fx.length:=by rw[hxv.len,ak]
 have d1:((el.length:Int)!=(el.length:Int))=false:=by simp
 have AH:((if((fx.length:Int)!=(el.length:Int))=true then((fx.length:Int)!=0)else false))=false:=by
  rcases hfx with rfl|h
  ·simp
  ·rw[h];simp
 have fin:∀f' A' w1 w2 w3 w4 w5,f' 6=.pointer (some ⟨b6,0,none⟩)->f' 7=.int .i64 0->Bl A' b6 [w1,w2,w3,w4,w5]->(∀X W,af W A' X->(∀q,W q->q<H2.size/\(H0.size<=q\/xp H2 q))->dE X (.agg #[w1,w2,w3,w4,w5]) ⟨el,F.di,F.sa,F.mo⟩ (fixF el.length fx))->af (fun q=>q=b6) H2 A'->kx [.cn 6 5,.t 7] Q .r f' A':=fun f' A' w1 w2 w3 w4 w5 f6 f7 BA PA KA=>by
  have l6:aI A' (.pointer (some ⟨b6,0,none⟩)) 5=some #[w1,w2,w3,w4,w5]:=BA.aI 5 rfl;simp-implicitDefEqProofs only[go_sem,zS,↓reduceIte,Za,Zb,Zc,reduceCtorEq,ae,zU,zV,Zf,Zg,Zh,Zi,Zd,Ze,zF,cU,cV,f6,f7,l6];rw[hQ];exact⟨_,rfl,fun X W KW hW=>PA X W KW fun q hq=>⟨by have:=(hW q hq).1;have:=fy.size;omega,by
   rcases(hW q hq).2 with h|⟨L,B,h⟩
   ·exact .inl h
   ·exact .inr ⟨L,fy.bl B (by simp),h⟩⟩,fy.trans' KA fun q hq e=>by have:=K1.size;omega⟩
 have s1:=K1.size;have aaC:b3≠b6:=by have:=eB.lt;omega
 have Es:=KH0.trans fy;have z0:=KH0.size;rcases hfx with e|e
 ·have z0:fx.length=0:=by rw[e];rfl
  rw[z0]at lx;have d2:((0:Int)!=(el.length:Int))=true:=bne_iff_ne.2 (by omega);have d3:((0:Int)!=0)=false:=rfl;simp-implicitDefEqProofs only[go_sem,zS,↓reduceIte,Za,Zb,Zc,reduceCtorEq,zU,zV,Zf,Zg,Zh,Zi,Zd,Ze,zF,c0,h1.ax,hev.ax,hxv.ax,ls,le,lx,d1,Int.ofNat_zero,Int.natCast_zero,d2,d3];exact GH c (b3:=b3) (by simp-implicitDefEqProofs only[go_sem,zS,↓reduceIte,Za,Zb,Zc,reduceCtorEq,ae,zU,zV,Zf,Zg,Zh,Zi,Zd,Ze]) (by simp-implicitDefEqProofs only[go_sem,zS,↓reduceIte,Za,Zb,Zc,reduceCtorEq,ae,zU,zV,Zf,Zg,Zh,Zi,Zd,Ze]) (by simp-implicitDefEqProofs only[go_sem,zS,↓reduceIte,Za,Zb,Zc,reduceCtorEq,ae,zU,zV,Zf,Zg,Zh,Zi,Zd,Ze]) (by simp-implicitDefEqProofs only[go_sem,zS,↓reduceIte,Za,Zb,Zc,reduceCtorEq,ae,zU,zV,Zf,Zg,Zh,Zi,Zd,Ze]) (by simp-implicitDefEqProofs only[go_sem,zS,↓reduceIte,Za,Zb,Zc,reduceCtorEq,ae,zU,zV,Zf,Zg,Zh,Zi,Zd,Ze]) nO vt (h3.aj Es) (h4.aj Es) (h5.aj Es) Es (by omega) h6 (hev.ag Es (by simp)) hvl hes hvs (hxv.ag Es (by simp)) (by first|exact .inl e|exact .inr e) hG hU fin
 ·have d2:((fx.length:Int)!=(el.length:Int))=false:=by rw[e];simp
  simp-implicitDefEqProofs only[go_sem,zS,↓reduceIte,Za,Zb,Zc,reduceCtorEq,zU,zV,Zf,Zg,Zh,Zi,Zd,Ze,zF,c0,h1.ax,hev.ax,hxv.ax,ls,le,lx,d1,d2];exact GH c (b3:=b3) (by simp-implicitDefEqProofs only[go_sem,zS,↓reduceIte,Za,Zb,Zc,reduceCtorEq,ae,zU,zV,Zf,Zg,Zh,Zi,Zd,Ze]) (by simp-implicitDefEqProofs only[go_sem,zS,↓reduceIte,Za,Zb,Zc,reduceCtorEq,ae,zU,zV,Zf,Zg,Zh,Zi,Zd,Ze]) (by simp-implicitDefEqProofs only[go_sem,zS,↓reduceIte,Za,Zb,Zc,reduceCtorEq,ae,zU,zV,Zf,Zg,Zh,Zi,Zd,Ze]) (by simp-implicitDefEqProofs only[go_sem,zS,↓reduceIte,Za,Zb,Zc,reduceCtorEq,ae,zU,zV,Zf,Zg,Zh,Zi,Zd,Ze]) (by simp-implicitDefEqProofs only[go_sem,zS,↓reduceIte,Za,Zb,Zc,reduceCtorEq,ae,zU,zV,Zf,Zg,Zh,Zi,Zd,Ze]) nO vt (h3.aj Es) (h4.aj Es) (h5.aj Es) Es (by omega) h6 (hev.ag Es (by simp)) hvl hes hvs (hxv.ag Es (by simp)) (by first|exact .inl e|exact .inr e) hG hU fin
end Go.Mg
namespace Go.Mg
open Go Go.RowKit
def GJ (ι:aJ):S:=
 (.seq (kY [kA 24 7,kV 25 (.cm .neq .i64 (.t 24) (.c (.int .i64 0)))] (.ite (.v 25) (kY [kC 4 (kZ),kC 5 (.bool false)] .ret) .skip)) (kY [kM 27 5 6,kc 28 (kg (ι.f 373) [.t 27,.c (.int .i64 0)]),kF 26 28,kQ 29 26 0,kQ 30 26 1,kQ 31 26 2,kQ 32 26 3,kc 9 (.new (ι.t 372) #[kZ]),kB 8 29,kf (.stn 1 (.t 9) (.t 30)),kB 10 31,kB 7 32] (kY [kA 33 8,kA 34 10,kF 35 34,kS 36 35 true 7,kT 37 35 true (.cm .eql .i64 (.t 36) (.c (.int .i64 0))),kJ 38 35 37,kB 4 33,kB 5 38] .ret)))
def uN (ι:aJ):S:=
 kY [kC 4 (kZ),kC 5 (.bool false)] (.seq (.dr (kW 12 (.mv (.v 0)) (kW 13 (.nil (.t 12)) (kW 14 (.fa 0 (.t 13)) (kW 15 (.m (.ldn 5 (.t 14))) (kW 16 (.mv (.v 0)) (kW 17 (.nil (.t 16)) (kW 18 (.fa 5 (.t 17)) (kW 19 (.ld (.t 18)) (kW 20 (.mv (.v 1)) (ka 21 (kg (ι.f 376) [.t 15,.t 19,.t 20]) (kW 11 (.mv (.t 21)) (kW 22 (.ext (.t 11) 0) (kW 23 (.ext (.t 11) 1) (.wcons (.v 6) .none (.new (ι.t 358) #[kZ,kZ,kZ,kZ,kZ]) (kb (.stn 5 (.v 6) (.t 22)) (kX 7 (.mv (.t 23)) .done) .wnil) .wnil)))) (.wcons (.v 6) .none (.new (ι.t 358) #[kZ,kZ,kZ,kZ,kZ]) (ka 21 (kg (ι.f 376) [.t 15,.t 19,.t 20]) (kW 11 (.mv (.t 21)) (kW 22 (.ext (.t 11) 0) (kW 23 (.ext (.t 11) 1) (kb (.stn 5 (.v 6) (.t 22)) (kX 7 (.mv (.t 23)) .done) .wnil)))) .wnil) .wnil)))))))))))) (GJ ι))
def uO:List RV:=[.t 4,.t 5]
def bV (F:jn) (el:List (Nat->Bool)):eX:=⟨el,F.di,F.sa,F.mo⟩
def lK (H:Hp) (rb:Nat) (F:jn) (el:List (Nat->Bool)) (st:List Int):Prop:=∃s b d a m ev sv vs,Bl H rb [s,b,d,a,m,ev,sv]/\cC H (.agg #[s,b,d,a,m]) F/\aG H ev vs/\vs.length=el.length/\F.st.length=el.length/\(∀i<vs.length,aS H (.agg #[vs.getD i undef]) (el.getD i fun _=>false))/\aG H sv (iL st)
theorem lK.aj {H H':Hp} {rb:Nat} {F:jn} {el:List (Nat->Bool)} {st:List Int} (h:lK H rb F el st) (hk:af (fun _=>False) H H'):lK H' rb F el st:=by
 obtain⟨s,b,d,a,m,ev,sv,vs,h1,h2,h3,h4,h5,h6,h7⟩:=h;exact⟨s,b,d,a,m,ev,sv,vs,hk.bl h1 (by simp),h2.aj hk,h3.ag hk (by simp),h4,h5,fun i hi=>(h6 i hi).aj hk,h7.ag hk (by simp)⟩
structure xq (p:eX) (fx:List Int):Prop where
 u:jV p.el.length fx
 w:∃w,(∀k,(aD (bS p k)).length<=w)/\w<=256/\1+gN w (eM fx)<=2199023255552
def js (P:Program) (ι:aJ) (k:FuncId):Prop:=∀(F:jn) (el:List (Nat->Bool)) (st fx:List Int) (rb:Nat) (xv:Value) (H:Hp),br ι H->lK H rb F el st->aG H xv (iL fx)->cD (bV F el)->xq (bV F el) fx->an P k #[.pointer (some ⟨rb,0,none⟩),xv] H fun r H'=>∃sv,r=.tuple #[sv,.bool (dd (bV F el) fx).isSome]/\af (fun _=>False) H H'/\match dd (bV F el) fx with|none=>sv=.slice none 0 0|some t=>aG H' sv (iL t)
theorem GK {P:Program} {ι:aJ} {k:FuncId} (hk:aq P k (uN ι) uO 2) (hp:rP P ι (ι.f 376)) (hs:rO P ι (ι.f 373)):js P ι k:=by
 intro F el st fx rb xv H hT hR hx hG hB;obtain⟨s,b,d,a,m,ev,sv,vs,B,hF,he,hl,hst,hes,hsv⟩:=hR;refine qI fun Q hQ=>?_;refine ah hk (args:=[_,_]) (by simp) ?_;unfold uN uO kC kW kX ka kb kg kY kZ;have hn0:0<el.length:=hG.n0;have SY:fx.length=el.length:=hB.u.1;have hne:fx≠[]:=by rintro rfl;simp at SY;omega
 have Tj:fixF el.length fx=fx:=by unfold fixF;rw[if_neg hne]
 have c5:cell H ⟨rb,5,none⟩=some ev:=by rw[B.cell];rfl
 have l5:aR H ⟨rb,0,none⟩ 5=some #[s,b,d,a,m]:=by
  have:=B.aR (o:=0) (n:=5) (by simp);simpa using this
 have lt:=B.lt;have hW:(H.size<=rb)=False:=eq_false (by omega);have hU':jV el.length (fixF el.length fx):=by rw[Tj];exact hB.u
 have call:∀X,af (fun _=>False) H X->an P (ι.f 376) #[.agg #[s,b,d,a,m],ev,xv] X fun r X'=>∃w1 w2 w3 w4 w5,r=.tuple #[.agg #[w1,w2,w3,w4,w5],.int .i64 0]/\(∀Y W,af W X' Y->(∀q,W q->H.size<=q/\q<X.size)->dE Y (.agg #[w1,w2,w3,w4,w5]) (bV F el) fx)/\af (fun _=>False) X X':=fun X K=>by
  refine(hp F el vs fx _ _ _ H X K hF he hl hst hes hx (.inr SY) hG hU').mono ?_;rintro r X' ⟨pv,rfl,hP,K'⟩;rw[Tj]at hP;obtain⟨w1,w2,w3,w4,w5,PG,ms',e,h⟩:=hP X' (fun _=>False) (af.refl _ _) (fun q h=>h.elim);subst e;exact⟨w1,w2,w3,w4,w5,rfl,hP,K'⟩
 have tail:∀(g:Fr) (X:Hp) (b6:Nat) (w1 w2 w3 w4 w5:Value),g 6=.pointer (some ⟨b6,0,none⟩)->g 7=.int .i64 0->Bl X b6 [w1,w2,w3,w4,w5]->dE X (.agg #[w1,w2,w3,w4,w5]) (bV F el) fx->af (fun _=>False) H X->vc P (GJ ι) (kx [.t 4,.t 5] Q) g X:=fun g X b6 w1 w2 w3 w4 w5 g6 g7 B6 PX KX=>by
  unfold GJ kA kB kF kC kJ kM kQ kS kT kV kc kf kg kY kZ;have xS:((0:Int)!=0)=false:=rfl;have Ri:((0:Int)==0)=true:=rfl;have l6:aI X (.pointer (some ⟨b6,0,none⟩)) 5=some #[w1,w2,w3,w4,w5]:=B6.aI 5 rfl;obtain⟨w,hw,hw1,Oo⟩:=hB.w;simp-implicitDefEqProofs only[go_sem,zS,↓reduceIte,Za,Zb,Zc,reduceCtorEq,zU,zV,Zf,Zg,Zh,Zi,Zd,Ze,zF,g6,g7,xS,l6];refine(hs (bV F el) fx w _ X (hT.ag KX) PX hG hB.u hw hw1 Oo).mono ?_;rintro r X1 ⟨y,rv,My,rfl,K1,hy⟩;rw[ae];simp-implicitDefEqProofs only[go_sem,zS,↓reduceIte,Za,Zb,Zc,reduceCtorEq,zU,zV,Zf,Zg,Zh,Zi,Zd,Ze,zF];refine ay fun X2 b9 e9 z9 B9 K9=>?_;have XJ:Bl X2 b9 [.slice none 0 0]:=B9;have t9:=XJ.bK (o:=0) (n:=1) (by simp);have a1:bQ #[rv]:=bE (by simp only[List.all_cons,List.all_nil,aM My];rfl);have jF:af (fun q=>q=b9) X2 (aA X2 ⟨b9,0,none⟩ [rv]):=(af.refl _ _).aA _ (.inl rfl);have KF:af (fun _=>False) X1 (aA X2 ⟨b9,0,none⟩ [rv]):=K9.trans' jF fun q hq e=>by omega
  simp-implicitDefEqProofs only[go_sem,zS,↓reduceIte,Za,Zb,Zc,reduceCtorEq,zU,zV,Zf,Zg,Zh,Zi,Zd,Ze,zF,t9];refine⟨a1,?_⟩;rw[ae];have fin:Q (.tuple #[y,.bool (dd (bV F el) fx).isSome]) (aA X2 ⟨b9,0,none⟩ [rv]):=by
   rw[hQ];refine⟨y,rfl,(KX.trans K1).trans KF,?_⟩
   cases bO:dd (bV F el) fx with
   |none=>rw[bO]at hy;exact hy
   |some t=>rw[bO]at hy;exact hy.ag KF (by simp)
  cases bO:(dd (bV F el) fx).isSome with
  |true=>
   rw[bO]at fin;simp-implicitDefEqProofs only[go_sem,zS,↓reduceIte,Za,Zb,Zc,reduceCtorEq,zU,zV,Zf,Zg,Zh,Zi,Zd,Ze,zF,Ri];exact fin
  |false=>
   rw[bO]at fin;simp-implicitDefEqProofs only[go_sem,zS,↓reduceIte,Za,Zb,Zc,reduceCtorEq,zU,zV,Zf,Zg,Zh,Zi,Zd,Ze,zF,Ri];exact fin
 simp-implicitDefEqProofs only[go_sem,zS,↓reduceIte,Za,Zb,Zc,reduceCtorEq,zU,zV,Zf,Zg,Zh,Zi,Zd,Ze,zF];refine bC (fun q=>H.size<=q) ?_;simp-implicitDefEqProofs only[go_sem,zS,↓reduceIte,Za,Zb,Zc,reduceCtorEq,zU,zV,Zf,Zg,Zh,Zi,Zd,Ze,zF,c5,l5,aB,hW];have a1:∀{Y:Hp} {w1 w2 w3 w4 w5:Value},dE Y (.agg #[w1,w2,w3,w4,w5]) (bV F el) fx->bQ #[w1,w2,w3,w4,w5]:=fun hP=>by
  obtain⟨x1,x2,x3,x4,x5,PG,ms',e,hp⟩:=hP
  cases e
  exact bE (by simp only[List.all_cons,List.all_nil,aM hp.e.ax,aM hp.d.ax,aM hp.s.ax,aM hp.m.ax,aM hp.f.ax];rfl)
 refine⟨(call H (af.refl _ _)).mono ?_,(af.refl _ _).push _,(call _ ((af.refl _ _).push _)).mono ?_⟩
 ·rintro r X ⟨w1,w2,w3,w4,w5,rfl,hP,K⟩;have sX:=K.size;rw[aK];refine⟨K.any,?_⟩;have Kp:=(af.refl (fun _=>False) X).push (.cells #[.slice none 0 0,.slice none 0 0,.slice none 0 0,.slice none 0 0,.slice none 0 0] (ι.t 358));have Bp:=Bl.cW X #[.slice none 0 0,.slice none 0 0,.slice none 0 0,.slice none 0 0,.slice none 0 0] (ι.t 358);simp-implicitDefEqProofs only[go_sem,zS,↓reduceIte,Za,Zb,Zc,reduceCtorEq,zU,zV,Zf,Zg,Zh,Zi,Zd,Ze,zF];generalize X.push (.cells #[.slice none 0 0,.slice none 0 0,.slice none 0 0,.slice none 0 0,.slice none 0 0] (ι.t 358))=X1 at Kp Bp⊢;have K6:af (fun q=>q=X.size) X1 (aA X1 ⟨X.size,0,none⟩ [w1,w2,w3,w4,w5]):=(af.refl _ _).aA _ (.inl rfl);have B6:=Bp.aA 0 [w1,w2,w3,w4,w5];have KF:af (fun _=>False) X (aA X1 ⟨X.size,0,none⟩ [w1,w2,w3,w4,w5]):=Kp.trans' K6 fun q hq e=>by omega
  refine⟨Kp.any,⟨Bp.bK (o:=0) (n:=5) (by simp),a1 (hP X (fun _=>False) (af.refl _ _) (fun q h=>h.elim))⟩,K6.mono fun q _ e=>by omega,?_⟩;exact tail _ _ X.size w1 w2 w3 w4 w5 (by simp-implicitDefEqProofs only[go_sem,zS,↓reduceIte,Za,Zb,Zc,reduceCtorEq,ae,zU,zV,Zf,Zg,Zh,Zi,Zd,Ze]) (by simp-implicitDefEqProofs only[go_sem,zS,↓reduceIte,Za,Zb,Zc,reduceCtorEq,ae,zU,zV,Zf,Zg,Zh,Zi,Zd,Ze]) B6 (hP _ (fun _=>False) KF (fun q h=>h.elim)) (K.trans KF)
 ·rintro r X ⟨w1,w2,w3,w4,w5,rfl,hP,K⟩;have sX:=K.size;rw[Array.size_push]at sX hP;have Kp:=(af.refl (fun _=>False) H).push (.cells #[.slice none 0 0,.slice none 0 0,.slice none 0 0,.slice none 0 0,.slice none 0 0] (ι.t 358));have Bp:=K.bl (Bl.cW H #[.slice none 0 0,.slice none 0 0,.slice none 0 0,.slice none 0 0,.slice none 0 0] (ι.t 358)) (by simp);rw[aK];refine⟨K.any,?_⟩;simp-implicitDefEqProofs only[go_sem,zS,↓reduceIte,Za,Zb,Zc,reduceCtorEq,zU,zV,Zf,Zg,Zh,Zi,Zd,Ze,zF];have K6:af (fun q=>q=H.size) X (aA X ⟨H.size,0,none⟩ [w1,w2,w3,w4,w5]):=(af.refl _ _).aA _ (.inl rfl);have B6:=Bp.aA 0 [w1,w2,w3,w4,w5];refine⟨⟨Bp.bK (o:=0) (n:=5) (by simp),a1 (hP X (fun _=>False) (af.refl _ _) (fun q h=>h.elim))⟩,K6.mono fun q _ e=>by omega,?_⟩;exact tail _ _ H.size w1 w2 w3 w4 w5 (by simp-implicitDefEqProofs only[go_sem,zS,↓reduceIte,Za,Zb,Zc,reduceCtorEq,ae,zU,zV,Zf,Zg,Zh,Zi,Zd,Ze]) (by simp-implicitDefEqProofs only[go_sem,zS,↓reduceIte,Za,Zb,Zc,reduceCtorEq,ae,zU,zV,Zf,Zg,Zh,Zi,Zd,Ze]) B6 (hP _ (fun q=>q=H.size) K6 (fun q e=>by omega)) ((Kp.trans K).trans' K6 fun q hq e=>by omega)
end Go.Mg
