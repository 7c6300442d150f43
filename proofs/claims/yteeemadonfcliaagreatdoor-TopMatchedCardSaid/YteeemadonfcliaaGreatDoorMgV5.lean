/- Lemmas of ours. No conditions. -/
import Derived.Test.YteeemadonfcliaaGreatDoorMgV3
open Nat renaming reduceEqDiff→Za,reduceAdd→Zb,reduceMul→Zc,reduceLeDiff→Zd,reduceLT→Ze
open Int renaming reduceBEq→Zf,reduceBNe→Zg,reduceLE→Zh,reduceLT→Zi
set_option linter.all false
set_option maxRecDepth 100000
namespace Go.Mg
open Go Go.RowKit
def cP {α:Type} (enc:α->List Value) (P:Program) (k:FuncId):Prop:=∀(l:List α) (v:Value) (H:Hp),bo enc 2 H v l->l.length<1000000->an P k #[v] H fun r H'=>dG enc 2 H' r l/\(∀q,az r q->H.size<=q)/\af (fun _=>False) H H'
theorem F9 {α:Type} {enc:α->List Value} (hl:∀x,(enc x).length=2) (h1:∀x,∀v∈enc x,v.oneCell'=true) {P:Program} {ι:aJ} {k:FuncId} (hk:aq P k (yU ι) yV 1):cP enc P k:=by
 intro l v H hv hn;refine ah hk (args:=[_]) (by simp) ?_;unfold yU yV kA kB kC kV kc kY kZ;obtain⟨a,c,rfl,hc⟩:=hv.mk
 cases a with
 |none=>
  have h0:l=[]:=by
   rcases hv with⟨_,_,_,h⟩|⟨_,_,_,_,h,_⟩
   ·exact h
   ·cases h
  subst h0;simp-implicitDefEqProofs only[go_sem,zS,↓reduceIte,Za,Zb,Zc,reduceCtorEq,ae];exact⟨dG.nil _,fun k h=>h.elim,af.refl _ _⟩
 |some p=>
  simp-implicitDefEqProofs only[go_sem,zS,↓reduceIte,Za,Zb,Zc,reduceCtorEq];refine aF fun H1 b1 e1 z1 B1 K1=>?_;have s1:=K1.size;simp-implicitDefEqProofs only[go_sem,zS,↓reduceIte,Za,Zb,Zc,reduceCtorEq];have pg:dG enc 2 H1 (.slice (some ⟨b1,0,none⟩) 0 0) []:=dG.bl B1 rfl (by omega) (by omega) (by simp);refine sJ (l:=([]:List α)) (m:=l) H.size hl h1 pg (fun q hq=>by have hq:q=b1:=hq;omega) (by omega) (hv.aj K1) rfl (by omega) (by simp;omega) fun v3 H3 O3 own3 K3=>?_;rw[List.nil_append]at O3;simp-implicitDefEqProofs only[go_sem,zS,↓reduceIte,Za,Zb,Zc,reduceCtorEq,ae];exact⟨O3,own3,K1.lW K3 (Nat.le_refl _)⟩
abbrev MV:=Int×Option Addr×Nat×Nat
def ug (x:MV):Value:=.slice x.2.1 x.2.2.1 x.2.2.2
def eJ (x:MV):List Value:=[.int .i64 x.1,ug x]
theorem lG (x:MV):(eJ x).length=2:=rfl
theorem pw (x:MV):∀v∈eJ x,v.oneCell'=true:=by
 intro v hv;simp[eJ,ug]at hv;rcases hv with rfl|rfl<;>rfl
structure mE (H:Hp) (ms:List MV) (mo:List Dk):Prop where
 len:ms.length=mo.length
 at_:∀i (h:i<ms.length) (h':i<mo.length),ms[i].1=mo[i].1/\aS H (.agg #[ug ms[i]]) (bt mo[i].2)
variable {W:Nat->Prop} {H H':Hp} {ms:List UInt64} {mo:List Dk} {v s b d a m:Value} {f:jn} {C:Nat} {vs:List Value}
theorem mE.ag {ms:List MV} (h:mE H ms mo) (hk:af W H H') (hw:∀x∈ms,∀q,aU (ug x) q->¬W q):mE H' ms mo:=
 ⟨h.len,fun i h1 h2=>⟨(h.at_ i h1 h2).1,(h.at_ i h1 h2).2.ag hk fun q hq=>hw _ (List.getElem_mem h1) q hq⟩⟩
theorem mE.aj {ms:List MV} (h:mE H ms mo) (hk:af (fun _=>False) H H'):mE H' ms mo:=h.ag hk fun _ _ _ _ h=>h
theorem mE.snoc {ms:List MV} (h:mE H ms mo) {x:MV} {y:Dk} (h1:x.1=y.1) (h2:aS H (.agg #[ug x]) (bt y.2)):mE H (ms++[x]) (mo++[y]):=by
 refine⟨by simp[h.len],fun i hi AE=>?_⟩
 by_cases e:i<ms.length
 ·rw[List.getElem_append_left e,List.getElem_append_left (by rw[<-h.len];exact e)];exact h.at_ i e (by rw[<-h.len];exact e)
 ·have ma:i=ms.length:=by simp at hi;omega
  subst ma;have e1:(ms++[x])[ms.length]=x:=by simp
  have e2:(mo++[y])[ms.length]'AE=y:=by
   have:=h.len;simp[this]
  rw[e1,e2];exact⟨h1,h2⟩
def cC (H:Hp) (v:Value) (f:jn):Prop:=∃s b d a m ms,v=.agg #[s,b,d,a,m]/\bo gE 2 H s f.st/\sN H b f.be/\sN H d f.di/\sN H a f.sa/\bo eJ 2 H m ms/\mE H ms f.mo
theorem cC.aj (h:cC H v f) (hk:af (fun _=>False) H H'):cC H' v f:=by
 obtain⟨s,b,d,a,m,ms,rfl,h1,h2,h3,h4,h5,h6⟩:=h;exact⟨s,b,d,a,m,ms,rfl,h1.aj hk,h2.aj hk,h3.aj hk,h4.aj hk,h5.aj hk,h6.aj hk⟩
def w9 (C:Nat) (H:Hp) (v:Value) (f:jn):Prop:=∃s b d a m ms,v=.agg #[s,b,d,a,m]/\dG gE 2 H s f.st/\QR H b f.be/\QR H d f.di/\QR H a f.sa/\dG eJ 2 H m ms/\mE H ms f.mo∧
 (∀c∈[s,b,d,a,m],∀q,az c q->C<=q)/\(∀x∈ms,∀q,aU (ug x) q->C<=q)/\(∀c∈[b,d,a,m],∀q,az c q->¬az s q)/\∀x∈ms,∀q,aU (ug x) q->¬az s q
theorem w9.fl (h:w9 C H v f):cC H v f:=by
 obtain⟨s,b,d,a,m,ms,rfl,h1,h2,h3,h4,h5,h6,_⟩:=h;exact⟨s,b,d,a,m,ms,rfl,h1.sl,h2.sl,h3.sl,h4.sl,h5.sl,h6⟩
theorem w9.aj (h:w9 C H v f) (hk:af (fun _=>False) H H'):w9 C H' v f:=by
 obtain⟨s,b,d,a,m,ms,rfl,h1,h2,h3,h4,h5,h6,h7⟩:=h;exact⟨s,b,d,a,m,ms,rfl,h1.ag hk (by simp),h2.ag hk (by simp),h3.ag hk (by simp),h4.ag hk (by simp),h5.ag hk (by simp),h6.aj hk,h7⟩
theorem eH.shape {W:List UInt64} {p:Nat->Bool} (h:eH H v W p):∃a n c,v=.slice a n c:=by
 obtain⟨a,c,rfl,_⟩:=h.sl.mk;exact⟨_,_,_,rfl⟩
structure jG (H:Hp) (vs:List Value) (ms:List UInt64):Prop where
 len:vs.length=ms.length
 at_:∀i (h:i<vs.length) (h':i<ms.length),aS H (.agg #[vs[i]]) (bt ms[i])
theorem jG.ag (h:jG H vs ms) (hk:af W H H') (hw:∀x∈vs,∀q,aU x q->¬W q):jG H' vs ms:=
 ⟨h.len,fun i h1 h2=>(h.at_ i h1 h2).ag hk fun q hq=>hw _ (List.getElem_mem h1) q hq⟩
theorem jG.aj (h:jG H vs ms) (hk:af (fun _=>False) H H'):jG H' vs ms:=h.ag hk fun _ _ _ _ h=>h
theorem jG.snoc (h:jG H vs ms) {x:Value} {y:UInt64} (h2:aS H (.agg #[x]) (bt y)):jG H (vs++[x]) (ms++[y]):=by
 refine⟨by simp[h.len],fun i hi AE=>?_⟩
 by_cases e:i<vs.length
 ·rw[List.getElem_append_left e,List.getElem_append_left (by rw[<-h.len];exact e)];exact h.at_ i e (by rw[<-h.len];exact e)
 ·have ma:i=vs.length:=by simp at hi;omega
  subst ma;have e1:(vs++[x])[vs.length]=x:=by simp
  have e2:(ms++[y])[vs.length]'AE=y:=by
   have:=h.len;simp[this]
  rw[e1,e2];exact h2
def Ga (C:Nat) (H:Hp) (v:Value) (ms:List UInt64):Prop:=∃vs,bY H v vs/\jG H vs ms/\(∀q,az v q->C<=q)/\∀x∈vs,∀q,aU x q->C<=q/\¬az v q
theorem Ga.aj (h:Ga C H v ms) (hk:af (fun _=>False) H H'):Ga C H' v ms:=by
 obtain⟨vs,h1,h2,h3⟩:=h;exact⟨vs,h1.ag hk (by simp),h2.aj hk,h3⟩
theorem cC.bQ (h:cC H (.agg #[s,b,d,a,m]) f):Mg.bQ #[s,b,d,a,m]:=by
 obtain⟨s',b',d',a',m',ms,e,h1,h2,h3,h4,h5,_⟩:=h;simp only[Value.agg.injEq,Array.mk.injEq,List.cons.injEq,and_true]at e;obtain⟨rfl,rfl,rfl,rfl,rfl⟩:=e;obtain⟨_,_,rfl,_⟩:=h1.mk;obtain⟨_,_,rfl,_⟩:=h2.mk;obtain⟨_,_,rfl,_⟩:=h3.mk;obtain⟨_,_,rfl,_⟩:=h4.mk;obtain⟨_,_,rfl,_⟩:=h5.mk;exact bE rfl
theorem nh.bQ (h:nh H (.agg #[s,b,d,a,m]) f):Mg.bQ #[s,b,d,a,m]:=by
 obtain⟨s',b',d',a',m',e,h1,h2,h3,h4,h5⟩:=h;simp only[Value.agg.injEq,Array.mk.injEq,List.cons.injEq,and_true]at e;obtain⟨rfl,rfl,rfl,rfl,rfl⟩:=e;obtain⟨_,_,rfl,_⟩:=h1.mk;obtain⟨_,_,rfl,_⟩:=h2.mk;obtain⟨_,_,rfl,_⟩:=h3.mk;obtain⟨_,_,rfl,_⟩:=h4.mk;obtain⟨_,_,rfl,_⟩:=h5.mk;exact bE rfl
end Go.Mg
namespace Go.Mg
open Go Go.RowKit
def y0 (ι:aJ):S:=
 kY [kC 4 (.int .i64 0)] (.seq (kY [kA 6 0,kV 7 (.m (.lenl (.t 6))),kC 8 (.int .i64 0)] (.blk 0 (.loop (kY [kH 9 8 7] (.seq (.ite (.v 9) .skip (.exit 0)) (.seq (.blk 1 (kY [kA 10 8,kB 5 10] (kY [kA 11 1,kA 12 0,kA 13 5,kI 14 2 12 13,kN 15 2 14,kd 16 (.callv (.t 11) [.t 15])] (.ite (.v 16) (kY [kA 17 5,kB 4 17] .ret) .skip)))) (.reg [ke 18 8,kB 8 18]))))))) (kY [kC 4 (.int .i64 (-1))] .ret))
def y3:List RV:=[.t 4]
def y4 (ι:aJ):S:=
 kY [kC 4 (.bool false)] (kY [kA 5 0,kA 6 1,kc 7 (kg (ι.f 301) [.t 5,.t 6]),kU 8 (.cm .geq .i64 (.t 7) (.c (.int .i64 0))),kB 4 8] .ret)
def y5:List RV:=[.t 4]
def y6 (ι:aJ):S:=
 kY [kR 2 (ι.t 297) 0,kC 3 (.bool false)] (kY [kG 4 0 2,kD 5 4,kG 6 0 1,kD 7 6,kU 8 (.sc .eql (.t 5) (.t 7)),kB 3 8] .ret)
def y7:List RV:=[.t 3]
def py (ι:aJ):S:=
 kY [kd 2 (.new (ι.t 128) #[kZ])] (kY [kA 5 0,kU 6 (.m (.mx (.t 5) (.c (.int .i64 0)))),kU 7 (.m (.mn (.t 6) (.c (.int .i64 4096)))),kB 0 7] (kY [kA 8 0,kU 9 (.ar .add .i64 (.t 8) (.c (.int .i64 63))),kU 10 (.dv .quo .i64 (.t 9) (.c (.int .i64 64))),kc 11 (.nq (ι.t 28) 1 8 #[.int .u64 0] (.t 10) (.t 10)),kB 3 11] (.seq (kY [kA 12 3,kV 13 (.m (.lenl (.t 12))),kC 14 (.int .i64 0)] (.blk 0 (.loop (kY [kH 15 14 13] (.seq (.ite (.v 15) .skip (.exit 0)) (.seq (.blk 1 (kY [kA 16 14,kB 4 16] (.reg [kA 17 3,kA 18 4,kI 19 1 17 18,kf (.st (.t 19) (.c (.int .u64 18446744073709551615)))]))) (.reg [ke 20 14,kB 14 20]))))))) (.seq (kY [kA 21 0,kU 22 (.dv .rem .i64 (.t 21) (.c (.int .i64 64))),kV 23 (.cm .gtr .i64 (.t 22) (.c (.int .i64 0)))] (.ite (.v 23) (.reg [kA 24 3,kA 25 3,kL 26 25,kU 27 (.ar .sub .i64 (.t 26) (.c (.int .i64 1))),kA 28 0,kU 29 (.dv .rem .i64 (.t 28) (.c (.int .i64 64))),kU 30 (.sh .shl .u64 (.c (.int .u64 1)) (.t 29)),kU 31 (.ar .sub .u64 (.t 30) (.c (.int .u64 1))),kI 32 1 24 27,kf (.st (.t 32) (.t 31))]) .skip)) (kY [kA 33 3,kU 34 (.m (.jA #[kZ] [(0,(1,.t 33))])),kf (.stn 1 (.v 2) (.t 34))] .ret)))))
def pz:List RV:=[.cn 2 1]
def pB (P:Program) (k:FuncId):Prop:=∀(s:List UInt8) (H:Hp),an P k #[sV s] H fun r H'=>r=.bool (cB s)/\af (fun _=>False) H H'
variable {P:Program} {ι:aJ} {k:FuncId} {α:Type}
theorem y8 (hk:aq P k (iZ ι) i6 1) (h:mz P k):pB P k:=by
 intro s H
 by_cases hs:s.length<=1000000
 ·exact h s H hs
 refine ah hk (args:=[_]) (by simp) ?_;unfold iZ i6 kA kB kF kC ke kH kS kT kU kV kW kX ka kd kf kg kY;have e0:((s.length:Int)==0)=false:=by
  apply beq_eq_false_iff_ne.2;omega
 have e1:decide ((s.length:Int)>12)=true:=decide_eq_true (by omega);have hv:cB s=false:=by
  have:¬s.length<=12:=by omega
  simp[cB,this]
 simp-implicitDefEqProofs only[go_sem,zS,↓reduceIte,Za,Zb,Zc,reduceCtorEq,ae,zU,zV,Zf,Zg,Zh,Zi,Zd,Ze,zF,sV,fJ,e0,e1,hv];exact af.refl _ _
def O9 {α:Type} (P:Program) (enc:α->List Value) (q:α->Bool) (l:List α) (g:FuncId) (fi ca:Array Value) (H:Hp):Prop:=bF P g=true/\∀x∈l,∀A,af (fun _=>False) H A->an P g (fi++#[.agg (enc x).toArray]++ca) A fun r A'=>r=.bool (q x)/\af (fun _=>False) A A'
def ja {α:Type} (q:α->Bool) (l:List α):Int:=match l.findIdx? q with|some i=>(i:Int)|none=>-1
def pC {α:Type} (enc:α->List Value) (P:Program) (k:FuncId):Prop:=∀(l:List α) (q:α->Bool) (v:Value) (g:FuncId) (fi ca:Array Value) (H:Hp),bo enc 2 H v l->l.length<=1000000->O9 P enc q l g fi ca H->an P k #[v,.func (.func g) fi ca] H fun r H'=>r=.int .i64 (ja q l)/\af (fun _=>False) H H'
theorem J8 {enc:α->List Value} (he:∀x,(enc x).length=2) (hk:aq P k (y0 ι) y3 2):pC enc P k:=by
 intro l q v g fi ca H hv hl ⟨hg,hq⟩;refine qI fun Q hQ=>?_;refine ah hk (args:=[_,_]) (by simp) ?_;unfold y0 y3 kA kB kC ke kH kI kN kV kd kY;simp-implicitDefEqProofs only[go_sem,zS,↓reduceIte,Za,Zb,Zc,reduceCtorEq,ae,zU,zV,Zf,Zg,Zh,Zi,Zd,Ze,zF,hv.ax,hv.len];refine aO l.length [9,5,16,4,8] rfl rfl (by omega) (by simp-implicitDefEqProofs only[go_sem,zS,↓reduceIte,Za,Zb,Zc,reduceCtorEq,ae,zU,zV,Zf,Zg,Zh,Zi,Zd,Ze]) (by simp-implicitDefEqProofs only[go_sem,zS,↓reduceIte,Za,Zb,Zc,reduceCtorEq,ae,zU,zV,Zf,Zg,Zh,Zi,Zd,Ze]) (fun i g A=>(∀j<i,∀hj:j<l.length,q l[j]=false)/\af (fun _=>False) H A) ⟨fun j h=>by omega,af.refl _ _⟩ ?_ ?_
 ·rintro i f A hi gi gn ⟨hno,KA⟩;simp-implicitDefEqProofs only[go_sem,zS,↓reduceIte,Za,Zb,Zc,reduceCtorEq,ae,zU,zV,Zf,Zg,Zh,Zi,Zd,Ze]at gi gn;obtain⟨pb,po,pc,yY,BC,hld⟩:=(hv.aj KA).elem he hi;have:=hq l[i] (List.getElem_mem hi) A KA;simp-implicitDefEqProofs only[go_sem,zS,↓reduceIte,Za,Zb,Zc,reduceCtorEq,ae,zU,zV,Zf,Zg,Zh,Zi,Zd,Ze,zF,gi,yY,ai,aB,hld,hg];refine⟨by omega,this.mono ?_⟩;rintro r A1 ⟨rfl,K1⟩;rw[ae];simp-implicitDefEqProofs only[go_sem,zS,↓reduceIte,Za,Zb,Zc,reduceCtorEq,ae,zU,zV,Zf,Zg,Zh,Zi,Zd,Ze,zF];refine sC (fun hb=>?_) (fun hb=>?_)
  ·rw[hQ];have:l.findIdx? q=some i:=List.findIdx?_eq_some_iff_getElem.2 ⟨hi,hb,fun j hj=>by rw[hno j hj (by omega)];simp⟩;refine⟨?_,KA.trans K1⟩;simp only[ja,this]
  ·refine⟨fun j hj sQ=>?_,KA.trans K1⟩
   by_cases e:j=i
   ·subst e;exact hb
   ·exact hno j (by omega) sQ
 ·rintro f A gi ⟨hno,KA⟩;simp-implicitDefEqProofs only[go_sem,zS,↓reduceIte,Za,Zb,Zc,reduceCtorEq,ae,zU,zV,Zf,Zg,Zh,Zi,Zd,Ze,zF];rw[hQ];have:l.findIdx? q=none:=by
   rw[List.findIdx?_eq_none_iff];intro x hx;obtain⟨j,hj,rfl⟩:=List.getElem_of_mem hx;exact hno j hj hj
  refine⟨?_,KA⟩;simp only[ja,this]
def pD {α:Type} (enc:α->List Value) (P:Program) (k:FuncId):Prop:=∀(l:List α) (q:α->Bool) (v:Value) (g:FuncId) (fi ca:Array Value) (H:Hp),bo enc 2 H v l->l.length<=1000000->O9 P enc q l g fi ca H->an P k #[v,.func (.func g) fi ca] H fun r H'=>r=.bool (l.any q)/\af (fun _=>False) H H'
theorem mF (q:α->Bool) (l:List α):decide (ja q l≥0)=l.any q:=by
 unfold ja
 cases h:l.findIdx? q with
 |none=>
  rw[List.findIdx?_eq_none_iff]at h;have:l.any q=false:=by rw[List.any_eq_false];intro x hx;rw[h x hx];simp
  rw[this];rfl
 |some i=>
  obtain⟨hi,h1,_⟩:=List.findIdx?_eq_some_iff_getElem.1 h;have:l.any q=true:=List.any_eq_true.2 ⟨_,List.getElem_mem hi,h1⟩;rw[this];simp
theorem J9 {enc:α->List Value} (hk:aq P k (y4 ι) y5 2) (hi:pC enc P (ι.f 301)):pD enc P k:=by
 intro l q v g fi ca H hv hl hq;refine ah hk (args:=[_,_]) (by simp) ?_;unfold y4 y5 kA kB kC kU kc kg kY;simp-implicitDefEqProofs only[go_sem,zS,↓reduceIte,Za,Zb,Zc,reduceCtorEq,ae,zU,zV,Zf,Zg,Zh,Zi,Zd,Ze,zF];refine(hi l q v g fi ca H hv hl hq).mono ?_;rintro r A ⟨rfl,K⟩;rw[ae];simp-implicitDefEqProofs only[go_sem,zS,↓reduceIte,Za,Zb,Zc,reduceCtorEq,ae,zU,zV,Zf,Zg,Zh,Zi,Zd,Ze,zF,mF];exact K
theorem toList_ba (a b:List UInt8):((⟨a.toArray⟩:ByteArray).toList==(⟨b.toArray⟩:ByteArray).toList)=decide (a=b):=by
 have e:∀x:List UInt8,(⟨x.toArray⟩:ByteArray).toList=x:=fun x=>by rw[ByteArray.toList_eq]
 rw[e,e];rw[Bool.eq_iff_iff];simp
def pG (P:Program) (k:FuncId):Prop:=bF P k=true/\∀(x y:BH) (b:Nat) (H:Hp),Bl H b (gE y)->an P k #[.agg (gE x).toArray,.pointer (some ⟨b,0,none⟩)] H fun r H'=>r=.bool (decide (x.1=y.1))/\af (fun _=>False) H H'
theorem Ka (hk:aq P k (y6 ι) y7 2):pG P k:=by
 refine⟨hk.body,fun x y b H hB=>?_⟩;refine ah hk (args:=[_,_]) (by simp) ?_;unfold y6 y7 kB kC kD kG kR kU kY;simp-implicitDefEqProofs only[go_sem,zS,↓reduceIte,Za,Zb,Zc,reduceCtorEq,zU,zV,Zf,Zg,Zh,Zi,Zd,Ze,zF];refine ay fun H1 b1 e1 z1 B1 K1=>?_;have eB:Bl H1 b1 (gE x):=B1;have c0:cell H1 ⟨b1,0,none⟩=some (sV x.1):=by rw[eB.cell];rfl
 have c1:cell H1 ⟨b,0,none⟩=some (sV y.1):=by rw[(K1.bl hB (by simp)).cell];rfl
 rw[sV]at c0 c1;simp-implicitDefEqProofs only[go_sem,zS,↓reduceIte,Za,Zb,Zc,reduceCtorEq,ae,zU,zV,Zf,Zg,Zh,Zi,Zd,Ze,zF,c0,c1,toList_ba];exact K1
theorem bo.SD {enc:α->List Value} {k:Nat} {H:Hp} {v:Value} {l:List α} (hk:∀x,(enc x).length=k) (h:bo enc k H v l) {n:Nat} (hn:n<=l.length):bo enc k H (vl v k none (some (n:Int))) (l.take n):=by
 rcases h with⟨a,c,rfl,rfl⟩|⟨b,o,c,hne,rfl,h0,C,T,z,h1,h2,h3⟩
 ·have:n=0:=by simpa using hn
  subst this;exact .inl ⟨_,c -0,rfl,by simp⟩
 ·have hl:(l.take n).length=n:=by simp;omega
  have hm:n*k<=l.length*k:=Nat.mul_le_mul hn (Nat.le_refl _);have:=bo.at_ (enc:=enc) (k:=k) (l:=l.take n) (o:=o) (c:=c) (by omega) h1 (by rw[hl];omega) (by
   rw[hl];rw[<-sH hk l n hn,<-h3];rw[List.take_take,Nat.min_eq_left hm])
  rw[hl]at this;simp[vl,kj,xM,dR]at this⊢;exact this
def dD:UInt64:=18446744073709551615
theorem BJ (k:Nat) (hk:k<64):bt dD k=true:=by
 have:∀m:Fin 64,bt dD m.val=true:=by decide
 exact this ⟨k,hk⟩
def xa (k:Nat):UInt64:=UInt64.ofNat (2^k -1)
theorem Kb (k j:Nat) (hk:k<64):bt (xa k) j=decide (j<k):=by
 have e:(xa k).toNat=2^k -1:=by
  unfold xa;rw[UInt64.toNat_ofNat'];apply Nat.mod_eq_of_lt;have:2^k<=2^63:=Nat.pow_le_pow_right (by omega) (by omega);omega
 unfold bt;rw[e,Nat.testBit_two_pow_sub_one]
def pH (n:Nat):List UInt64:=if n % 64>0 then(List.replicate ((n+63)/64) dD).set ((n+63)/64 -1) (xa (n % 64))else List.replicate ((n+63)/64) dD
theorem xb (n:Nat):(pH n).length=(n+63)/64:=by unfold pH;split<;>simp
theorem xc (n i:Nat):bU (pH n) i=decide (i<n):=by
 have hi:i % 64<64:=Nat.mod_lt _ (by omega);have rep:∀m j,(List.replicate m dD).getD j 0=if j<m then dD else 0:=fun m j=>by
  rw[List.getD_eq_getElem?_getD,List.getElem?_replicate];split<;>rfl
 unfold pH bU
 split
 ·next h=>
  have hm:0<(n+63)/64:=by omega
  rw[List.getD_eq_getElem?_getD,List.getElem?_set]
  by_cases e:(n+63)/64 -1=i/64
  ·rw[if_pos e,if_pos (by simp;omega),Option.getD_some,Kb _ _ (by omega)];rw[decide_eq_decide];omega
  ·rw[if_neg e,<-List.getD_eq_getElem?_getD,rep]
   split
   ·next h2=>rw[BJ _ hi,eq_comm,decide_eq_true_iff];omega
   ·next h2=>rw[dU,eq_comm,decide_eq_false_iff_not];omega
 ·next h=>
  rw[rep]
  split
  ·next h2=>rw[BJ _ hi,eq_comm,decide_eq_true_iff];omega
  ·next h2=>rw[dU,eq_comm,decide_eq_false_iff_not];omega
def ig (P:Program) (k:FuncId):Prop:=∀(n:Nat) (H:Hp),n<=4096->an P k #[.int .i64 n] H fun r H'=>aS H' r (fun i=>decide (i<n))/\af (fun _=>False) H H'/\∀q,jP r q->H.size<=q
theorem SE (k:Nat) (hk:k<64):IntKind.u64.wrap (IntKind.u64.wrap (1*2^k) -1)=((xa k).toNat:Int):=by
 have:∀m:Fin 64,IntKind.u64.wrap (IntKind.u64.wrap (1*2^m.val) -1)=((xa m.val).toNat:Int):=by decide
 exact this ⟨k,hk⟩
theorem Dn (hk:aq P k (py ι) pz 1):ig P k:=by
 intro n H hn;refine qI fun Q hQ=>?_;refine ah hk (args:=[_]) (by simp) ?_;unfold py pz kA kB kC ke kH kI kL kU kV kc kd kf kY kZ;simp-implicitDefEqProofs only[go_sem,zS,↓reduceIte,Za,Zb,Zc,reduceCtorEq,zU,zV,Zf,Zg,Zh,Zi,Zd,Ze,zF];refine ay fun H1 b1 e1 z1 B1 K1=>?_;have eB:Bl H1 b1 [.slice none 0 0]:=B1;have m1:(if(0:Int)>(n:Int)then(0:Int)else(n:Int))=(n:Int):=if_neg (by omega);have m2:(if(4096:Int)<(n:Int)then(4096:Int)else(n:Int))=(n:Int):=if_neg (by omega);have w1:IntKind.i64.wrap ((n:Int)+63)=((n+63:Nat):Int):=by rw[IntWalk.i64_in _ (by omega)];omega
 have w2:IntKind.i64.wrap (((n+63:Nat):Int).tdiv 64)=(((n+63)/64:Nat):Int):=by
  have:((n+63:Nat):Int).tdiv 64=(((n+63)/64:Nat):Int):=rfl;rw[this,IntWalk.i64_in _ (by omega)]
 have hm:(n+63)/64<=maxLen:=by unfold maxLen;omega
 obtain⟨N,hN⟩:∃N,N=(n+63)/64:=⟨_,rfl⟩
 have aav:N<=64:=by omega
 have JN:N<=maxLen:=by unfold maxLen;omega
 simp-implicitDefEqProofs only[go_sem,zS,↓reduceIte,Za,Zb,Zc,reduceCtorEq,zU,zV,Zf,Zg,Zh,Zi,Zd,Ze,zF,m1,m2,w1,w2,ai,kindOf,<-hN];refine⟨by decide,⟨by omega,by omega,by omega⟩,?_⟩;refine aF fun H2 b2 e2 z2 B2 K2=>?_;have vt:Bl H2 b2 (List.replicate N (.int .u64 0)):=by rw[cx]at B2;exact B2
 have aaw:b1<b2:=by have:=eB.lt;omega
 simp-implicitDefEqProofs only[go_sem,zS,↓reduceIte,Za,Zb,Zc,reduceCtorEq,ae,zU,zV,Zf,Zg,Zh,Zi,Zd,Ze,zF];refine aO N [15,4,14] rfl rfl (by omega) (by simp-implicitDefEqProofs only[go_sem,zS,↓reduceIte,Za,Zb,Zc,reduceCtorEq,ae,zU,zV,Zf,Zg,Zh,Zi,Zd,Ze]) (by simp-implicitDefEqProofs only[go_sem,zS,↓reduceIte,Za,Zb,Zc,reduceCtorEq,ae,zU,zV,Zf,Zg,Zh,Zi,Zd,Ze]) (fun i g A=>Bl A b2 (dV (List.replicate i dD++List.replicate (N -i) 0))/\af (fun q=>q=b2) H2 A) ⟨by rw[nJ]at vt;simpa using vt,af.refl _ _⟩ ?_ ?_
 ·rintro i g A hi gi gn ⟨BA,KA⟩;simp-implicitDefEqProofs only[go_sem,zS,↓reduceIte,Za,Zb,Zc,reduceCtorEq,ae,zU,zV,Zf,Zg,Zh,Zi,Zd,Ze]at gi gn;have hlen:(dV (List.replicate i dD++List.replicate (N -i) 0)).length=N:=by rw[aH];simp;omega
  have hst:=BA.bk (o:=i) (by rw[hlen];exact hi);have BS:=BA.al i (.int .u64 18446744073709551615);have e64:(Value.int .u64 18446744073709551615)=.int .u64 (dD.toNat:Int):=rfl;rw[e64,lh _ _ (by simp;omega)]at BS;have es:(List.replicate i dD++List.replicate (N -i) 0).set i dD=List.replicate (i+1) dD++List.replicate (N -(i+1)) (0:UInt64):=by
   refine List.ext_getElem? fun j=>?_;rw[List.getElem?_set]
   by_cases hj:i=j
   ·subst hj;rw[if_pos rfl,if_pos (by simp;omega),List.getElem?_append_left (by simp),List.getElem?_replicate,if_pos (by omega)]
   ·rw[if_neg hj]
    by_cases hl:j<i
    ·rw[List.getElem?_append_left (by simpa using hl),List.getElem?_append_left (by simp;omega),List.getElem?_replicate,List.getElem?_replicate,if_pos hl,if_pos (by omega)]
    ·rw[List.getElem?_append_right (by simp;omega),List.getElem?_append_right (by simp;omega),List.getElem?_replicate,List.getElem?_replicate];simp only[List.length_replicate]
     split<;>split<;>first|rfl|omega
  rw[es]at BS;simp-implicitDefEqProofs only[go_sem,zS,↓reduceIte,Za,Zb,Zc,reduceCtorEq,ae,zU,zV,Zf,Zg,Zh,Zi,Zd,Ze,zF,gi,ai,hst];exact⟨by omega,BS,KA.al _ (.inl rfl)⟩
 ·rintro g A gi ⟨BA,KA⟩;rw[Nat.sub_self,List.replicate_zero,List.append_nil]at BA;have m3:((n:Int)).tmod 64=((n % 64:Nat):Int):=FL _ 64;have Q2:=(K2.any.trans KA).bl eB (by omega);have sA:=KA.size;simp-implicitDefEqProofs only[go_sem,zS,↓reduceIte,Za,Zb,Zc,reduceCtorEq,ae,zU,zV,Zf,Zg,Zh,Zi,Zd,Ze,zF,m3];have fin:∀(W:List UInt64) (X:Hp),Bl X b2 (dV W)->W.length=N->(∀i,bU W i=decide (i<n))->(W=pH n)->af (fun q=>q=b2) A X->(bK X ⟨b1,0,none⟩ 1/\bQ #[Value.slice (some ⟨b2,0,none⟩) N N])/\(aI (aA X ⟨b1,0,none⟩ [Value.slice (some ⟨b2,0,none⟩) N N]) (.pointer (some ⟨b1,0,none⟩)) 1).isSome=true/\Q (.agg ((aI (aA X ⟨b1,0,none⟩ [Value.slice (some ⟨b2,0,none⟩) N N]) (.pointer (some ⟨b1,0,none⟩)) 1).getD #[])) (aA X ⟨b1,0,none⟩ [Value.slice (some ⟨b2,0,none⟩) N N]):=fun W X hB hl hmem hW hK=>by
   have B1X:=hK.bl Q2 (by omega);refine XL (n:=1) (cs:=[.slice (some ⟨b2,0,none⟩) N N]) B1X rfl rfl rfl fun HZ zz BZ KZ=>?_;rw[hQ];have hsl:aG HZ (.slice (some ⟨b2,0,none⟩) N N) (dV W):=by
    have:=aG.bl (KZ.bl hB (by omega)) 0 N N (Nat.le_refl _) (by rw[aH];omega);rw[List.drop_zero,List.take_of_length_le (by rw[aH];omega)]at this;exact this
   refine⟨⟨_,W,rfl,⟨hsl,by omega,?_,hmem⟩⟩,?_,?_⟩
   ·refine Can.yA fun hne=>⟨n -1,?_,?_⟩
    ·rw[hmem];exact decide_eq_true (by
      have:0<N:=by rw[<-hl];exact List.length_pos_iff.2 hne
      omega)
    ·omega
   ·exact((K1.trans K2).trans' (KA.trans hK) fun q hq e=>by have:=K1.size;omega).trans' KZ fun q hq e=>by omega
   ·intro q hq;have hq:q=b2/\_:=hq;have:=K1.size;omega
  by_cases hp:n % 64>0
  ·have d1:decide (((n % 64:Nat):Int)>0)=true:=decide_eq_true (by omega);have w4:IntKind.i64.wrap ((N:Int) -1)=((N -1:Nat):Int):=by rw[IntWalk.i64_in _ (by omega)];omega
   have hst:=BA.bk (o:=N -1) (by rw[aH];simp;omega);have BS:=BA.al (N -1) (.int .u64 ((xa (n % 64)).toNat:Int));rw[lh _ _ (by simp;omega)]at BS;have eW:(List.replicate N dD).set (N -1) (xa (n % 64))=pH n:=by unfold pH;rw[if_pos hp,hN]
   rw[eW]at BS;simp-implicitDefEqProofs only[go_sem,zS,↓reduceIte,Za,Zb,Zc,reduceCtorEq,ae,zU,zV,Zf,Zg,Zh,Zi,Zd,Ze,zF,d1,w4,ai,SE (n % 64) (by omega),hst];refine⟨by decide,by decide,by omega,by omega,?_⟩;exact fin (pH n) _ BS (by rw[xb,hN]) (xc n) rfl ((af.refl _ _).al _ (.inl rfl))
  ·have d1:decide (((n % 64:Nat):Int)>0)=false:=decide_eq_false (by omega);have eW:List.replicate N dD=pH n:=by unfold pH;rw[if_neg hp,hN]
   rw[eW]at BA;simp-implicitDefEqProofs only[go_sem,zS,↓reduceIte,Za,Zb,Zc,reduceCtorEq,ae,zU,zV,Zf,Zg,Zh,Zi,Zd,Ze,zF,d1];refine⟨by decide,?_⟩;exact fin (pH n) _ BA (by rw[xb,hN]) (xc n) rfl (af.refl _ _)
end Go.Mg
