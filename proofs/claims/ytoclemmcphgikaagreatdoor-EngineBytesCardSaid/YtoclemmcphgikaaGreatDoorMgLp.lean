/- Lemmas of ours. No conditions. -/
import Derived.Test.YtoclemmcphgikaaGreatDoorMgEl
open Bool renaming false→ZS,true→ZT
open Decidable renaming decide→ZQ
open Go renaming Value→ZR
open Go.IntKind renaming i64→ZY
open Go.Value renaming bool→Z5,int→Z8,pointer→Z7
open Option renaming none→ZU,some→ZV
open List renaming all_eq_true→YH
open Nat renaming zero_add→Zt
set_option linter.all false
namespace Go.Mg
open Go Go.RowKit
def aU {l:List ZR} (h:l.all (fun v=>v.oneCell')=ZT):bM l.toArray:=by
 intro x hx;rw[YH]at h;exact h x (by simpa using hx)
def aK {v:ZR} (h:aq v):v.oneCell'=ZT:=by
 cases v<;>first|rfl|exact h.elim
variable {P:Program} {d n b k bytes a p off C:Nat} {x:A} {r:List O} {e:Env} {f:Fr} {Q:Fr->Hp->Prop} {H:Hp} {z:Array ZR} {T:TypeId} {cs:List ZR} {α:Type} {lv sv:ZR}
def aO (cs:List ZR)
  (hx:A.rd e (bR f d (Z7 (ZV ⟨H.size,0,ZU⟩))) x=.agg cs.toArray) (hn:cs.length=n) (hz:z.size=n) (h1:cs.all (fun v=>v.oneCell')=ZT)
  (h:∀H' b,b=H.size->H'.size=H.size+1->Bl H' b cs->af (fun _=>False) H H'->ops P r e (bR f d (Z7 (ZV ⟨b,0,ZU⟩))) H' Q):
  zG P (.v d) (.e .no (.stn n (.v d) x)::r) e f Q (Z7 (ZV ⟨H.size,0,ZU⟩)) (H.push (.cells z T)):=by
 have hB:Bl (H.push (.cells z T)) H.size z.toList:=Bl.dh _ _ _;have hB2:=hB.aB 0 cs;have hw:rE z.toList 0 cs=cs:=pU _ _ (by simp[hn,hz]);rw[hw]at hB2;have e1:(bR f d (Z7 (ZV ⟨H.size,0,ZU⟩))) d=Z7 (ZV ⟨H.size,0,ZU⟩):=by simp[bR]
 rw[ae];simp only[Em,PS,Lh,EX.wp,k7,e1,hx];refine⟨⟨hB.bG (by simp[hz]),by simpa[Value.cells]using hn,by simpa[Value.cells]using aU h1⟩,?_⟩;rw[ae];simp only[jo,oo,ML,Value.cells];exact h _ H.size rfl (by rw[ig];simp) hB2 ((af.refl _ _).push _|>.trans' ((af.refl (fun q=>q=H.size) _).aB _ (.inl rfl)) fun q hq e=>by omega)
def cG {d2:Nat} {y:A} (cs:List ZR) (u:ZR) (hd:(d==d2)=ZS)
  (hx:A.rd e (bR (bR f d (Z7 (ZV ⟨H.size,0,ZU⟩))) d2 u) x=.agg cs.toArray) (hy:A.rd e (bR f d (Z7 (ZV ⟨H.size,0,ZU⟩))) y=u) (hn:cs.length=n) (hz:z.size=n) (h1:cs.all (fun v=>v.oneCell')=ZT)
  (h:∀H' b,b=H.size->H'.size=H.size+1->Bl H' b cs->af (fun _=>False) H H'->ops P r e (bR (bR f d (Z7 (ZV ⟨b,0,ZU⟩))) d2 u) H' Q):
  zG P (.v d) (.p (.v d2) (.mv y)::.e .no (.stn n (.v d) x)::r) e f Q (Z7 (ZV ⟨H.size,0,ZU⟩)) (H.push (.cells z T)):=by
 have hB:Bl (H.push (.cells z T)) H.size z.toList:=Bl.dh _ _ _;have hB2:=hB.aB 0 cs;have hw:rE z.toList 0 cs=cs:=pU _ _ (by simp[hn,hz]);rw[hw]at hB2;have hd':¬d=d2:=by simpa using hd
 have e1:(bR (bR f d (Z7 (ZV ⟨H.size,0,ZU⟩))) d2 u) d=Z7 (ZV ⟨H.size,0,ZU⟩):=by simp[bR,hd']
 rw[ae];simp only[Em,PS,Lg,PX.pre,PX.val,hy,Lh,EX.wp,k7,e1,hx,true_and];refine⟨⟨hB.bG (by simp[hz]),by simpa[Value.cells]using hn,by simpa[Value.cells]using aU h1⟩,?_⟩;rw[ae];simp only[jo,oo,ML,Value.cells];exact h _ H.size rfl (by rw[ig];simp) hB2 ((af.refl _ _).push _|>.trans' ((af.refl (fun q=>q=H.size) _).aB _ (.inl rfl)) fun q hq e=>by omega)
def EY {z:ZR} (c:ZR)
  (hx:A.rd e (bR f d (Z7 (ZV ⟨H.size,0,ZU⟩))) x=c) (h1:c.oneCell'=ZT)
  (h:∀H' b,b=H.size->H'.size=H.size+1->Bl H' b [c]->af (fun _=>False) H H'->ops P r e (bR f d (Z7 (ZV ⟨b,0,ZU⟩))) H' Q):
  zG P (.v d) (.e .no (.st (.v d) x)::r) e f Q (Z7 (ZV ⟨H.size,0,ZU⟩)) (H.push (.cells #[z] T)):=by
 have hB:Bl (H.push (.cells #[z] T)) H.size [z]:=Bl.dh _ _ _;have hB2:=hB.az 0 c;have e1:(bR f d (Z7 (ZV ⟨H.size,0,ZU⟩))) d=Z7 (ZV ⟨H.size,0,ZU⟩):=by simp[bR]
 rw[ae];simp only[Em,PS,Lh,EX.wp,k7,e1,hx];refine⟨⟨hB.bw (by simp),h1⟩,?_⟩;rw[ae];simp only[jo,oo,Uy];exact h _ H.size rfl (by rw[dV];simp) hB2 ((af.refl _ _).push _|>.trans' ((af.refl (fun q=>q=H.size) _).az _ (.inl rfl)) fun q hq e=>by omega)
def G6 {us:List ZR} {R:ZR->Hp->Prop} (B:Bl H b us) (hu:us.length=n) (hn:cs.length=n) (hs:cs.all (fun v=>v.oneCell')=ZT) (h:∀H',H'.size=H.size->Bl H' b cs->af (fun k=>k=b) H H'->R (.agg cs.toArray) H'):
  (bG H ⟨b,0,ZU⟩ n/\bM cs.toArray)/\(aL (aB H ⟨b,0,ZU⟩ cs) (Z7 (ZV ⟨b,0,ZU⟩)) n).isSome=ZT/\R (.agg ((aL (aB H ⟨b,0,ZU⟩ cs) (Z7 (ZV ⟨b,0,ZU⟩)) n).getD #[])) (aB H ⟨b,0,ZU⟩ cs):=by
 have hB:=B.aB 0 cs;have hw:rE us 0 cs=cs:=pU _ _ (by rw[hn,hu]);rw[hw]at hB;refine⟨⟨B.bG (o:=0) (n:=n) (by omega),aU hs⟩,?_⟩;rw[hB.aL n hn.symm];exact⟨rfl,h _ (ig _ _ _) hB ((af.refl _ _).aB _ (.inl rfl))⟩
def aaQ (q i k:Nat) (J:Nat->Fr->Hp->Prop) (Qb:Ex->Fr->Hp->Prop):Ex->Fr->Hp->Prop
 |.n,f,H=>J (k+1) (bR f i (Z8 ZY ((k+1:Nat):Int))) H
 |.x j,f,H=>if j=q then J (k+1) (bR f i (Z8 ZY ((k+1:Nat):Int))) H else Qb (.x j) f H
 |.r,f,H=>Qb .r f H
@[go_sem] theorem akI (q i k:Nat) (J) (Qb) (f:Fr) (H:Hp):aaQ q i k J Qb .n f H=J (k+1) (bR f i (Z8 ZY ((k+1:Nat):Int))) H:=rfl
@[go_sem] theorem afK (q i k j:Nat) (J) (Qb) (f:Fr) (H:Hp):aaQ q i k J Qb (.x j) f H=if j=q then J (k+1) (bR f i (Z8 ZY ((k+1:Nat):Int))) H else Qb (.x j) f H:=rfl
@[go_sem] theorem akJ (q i k:Nat) (J) (Qb) (f:Fr) (H:Hp):aaQ q i k J Qb .r f H=Qb .r f H:=rfl
def aF {c i t x0 q:Nat} {body:S} {Qb:Ex->Fr->Hp->Prop} (N:Nat) (ws:List Nat)
  (hws:(c::i::body.wr).all (ws.contains ·)=ZT) (hin:([i,c].contains n||body.wr.contains n||body.wr.contains i||body.wr.contains c||i==c)=ZS) (hN:N<=9223372036854775807) (hi:f i=Z8 ZY 0) (hn:f n=Z8 ZY (N:Int))
  (J:Nat->Fr->Hp->Prop) (h0:J 0 f H)
  (hr:∀k g H',k<N->(over f g ws) i=Z8 ZY (k:Int)->(over f g ws) n=Z8 ZY (N:Int)->J k (over f g ws) H'->vc P body (aaQ q i k J Qb) (bR (over f g ws) c (Z5 ZT)) H')
  (he:∀g H',(over f g ws) i=Z8 ZY (N:Int)->J N (over f g ws) H'->Qb (.x x0) (bR (over f g ws) c (Z5 ZS)) H'):
  vc P (.loop (.seq (.reg [.p (.v c) (.cm .lss ZY (.v i) (.v n))]) (.seq (.ite (.v c) .skip (.exit x0)) (.seq (.blk q body) (.reg [.p (.t t) (.ar .add ZY (.v i) (.c (Z8 ZY 1))),.p (.v i) (.mv (.t t))]))))) Qb f H:=by
 simp only[Bool.or_eq_false_iff,List.contains_cons,List.contains_nil,Bool.or_false,beq_eq_false_iff_ne,ne_eq]at hin;obtain⟨⟨⟨⟨⟨hni,hnc⟩,hnb⟩,hib⟩,hcb⟩,hic⟩:=hin;have akK:n∉body.wr:=by simpa using hnb
 have akL:i∉body.wr:=by simpa using hib
 have hsub:(S.seq (.reg [.p (.v c) (.cm .lss ZY (.v i) (.v n))]) (.seq (.ite (.v c) .skip (.exit x0)) (.seq (.blk q body) (.reg [.p (.t t) (.ar .add ZY (.v i) (.c (Z8 ZY 1))),.p (.v i) (.mv (.t t))])))).wr.all (ws.contains ·)=ZT:=by
  rw[YH]at hws⊢;intro y hy;refine hws y ?_;simp[S.wr,O.wr,D.wr]at hy;rcases hy with rfl|hy|rfl
  ·simp
  ·simp[hy]
  ·simp
 refine aT ws hsub (fun m g A=>∃k:Nat,k<=N/\m=N -k/\g i=Z8 ZY (k:Int)/\g n=Z8 ZY (N:Int)/\J k g A) N ⟨0,by omega,by omega,hi,hn,h0⟩ ?_;rintro m g A ⟨k,hk,rfl,gi,gn,hJ⟩;generalize hG:over f g ws=G at*;simp only[kx,PO,Lg,zN,zM,PX.pre,PX.val,k7,gi,gn,Em,PS,Li,cmI,and_self,true_and,Value.i,afg];have e1:(bR G c (.bool (ZQ ((k:Int)<(N:Int))))) c=.bool (ZQ ((k:Int)<(N:Int))):=by simp[bR]
 rw[e1];refine aN (fun hlt=>?_) (fun ki=>?_)
 ·have hlt:k<N:=by omega
  have e2:ZQ ((k:Int)<(N:Int))=ZT:=decide_eq_true (by omega);rw[e2];simp only[aaa,zM,kx,afa];have:=hr k g A hlt (by rw[hG];exact gi) (by rw[hG];exact gn) (by rw[hG];exact hJ);rw[hG]at this;refine fX body _ _ _ _ ?_ this;intro ex f1 H1 h1 hkp;have k1:f1 i=Z8 ZY (k:Int):=by rw[hkp i akL];simp[bR,hic,gi]
  have k2:f1 n=Z8 ZY (N:Int):=by rw[hkp n akK];simp[bR,hnc,gn]
  have fin:J (k+1) (bR f1 i (Z8 ZY ((k+1:Nat):Int))) H1->vc P (.reg [.p (.t t) (.ar .add ZY (.v i) (.c (Z8 ZY 1))),.p (.v i) (.mv (.t t))]) (vq (fun m g A=>∃k:Nat,k<=N/\m=N -k/\g i=Z8 ZY (k:Int)/\g n=Z8 ZY (N:Int)/\J k g A) (N -k) Qb) f1 H1:=fun hJ'=>by
   have w1:IntKind.i64.wrap ((k:Int)+1)=((k+1:Nat):Int):=by rw[IntWalk.i64_in _ (by omega)];omega
   simp only[PO,Lg,zN,PX.pre,PX.val,k7,rd_c,iW,k1,gQ,nV,Em,PS,bD,if_true,Li,arI,Value.i,w1,aae,and_self,true_and];exact⟨N -(k+1),by omega,k+1,by omega,rfl,by simp[bR],by simp[bR,hni,k2],hJ'⟩
  cases ex with
  |n=>exact fin h1
  |r=>exact h1
  |x j=>
   simp only[afK,PQ]at h1⊢
   split
   ·rename_i hj;rw[if_pos hj]at h1;exact fin h1
   ·rename_i hj;rw[if_neg hj]at h1;exact h1
 ·have:k=N:=by omega
  subst this;have e2:ZQ ((k:Int)<(k:Int))=ZS:=decide_eq_false (by omega);rw[e2];simp only[aab,aac,aad];have:=he g A (by rw[hG];exact gi) (by rw[hG];exact hJ);rw[hG]at this;exact this
def nH {enc:α->List ZR} {L M:List α}
  (hk:∀x,(enc x).length=k) (h1c:∀x,∀v∈enc x,v.oneCell'=ZT) (hs:cr enc k H lv L) (hn:∀q,ay lv q->C<=q) (hH:C<=H.size) (hx:bk enc k H sv M) (hz:z.size=k) (hb:bytes<=64) (h1:L.length+M.length<=1000000000)
  (hB:Bl H b cs) (hbC:b<C) (hoff:off<cs.length) (hf:f d=Z7 (ZV ⟨b,0,ZU⟩)) (hap:(p==a)=ZS)
  (hK:∀v' H',cr enc k H' v' (L++M)->(∀q,ay v' q->C<=q)->Bl H' b (cs.set off v')->af (fun q=>q=b\/C<=q) H H'->Q f H'):
  jn ZS T k bytes z lv sv H (mg P (fun q=>q=b\/C<=q) H (.t a) (.px (.t p) ZU (.fa off (.v d)) (.wcons .no ZU (.st (.t p) (.t a)) .done .wnil)) e f Q):=by
 refine rO C hk h1c hs hn hH hx hz hb h1 fun v' H' O' o' K'=>?_;have G7:¬a=p:=fun h=>by simp[h]at hap
 have B':=K'.bl hB (by omega);have hsl:aq v':=by obtain⟨_,_,_,rfl⟩:=O'.shape;trivial
 refine⟨K'.mono fun q _ h=>.inr h,?_⟩;have K2:af (fun q=>q=b\/C<=q) H (az H' ⟨b,off,ZU⟩ v'):=(K'.mono fun q _ h=>.inr h).az _ (.inl (.inl rfl));have K3:af (fun q=>q=b\/C<=q) H' (az H' ⟨b,off,ZU⟩ v'):=(af.refl _ _).az _ (.inl (.inl rfl));simp only[cQ,en,vw,vv,ek,PX.free,PX.pre,PX.val,KN,k7,iW,gQ,nV,oo,jo,bD,hf,fc,fQ,Zt,if_true,G7,if_false,EX.wp,bw,Uy,aJ,and_true,true_and];exact⟨⟨B'.bw hoff,aK hsl⟩,K3,hK v' _ (O'.ai ((af.refl (fun q=>q=b) H').az v' (.inl rfl)) fun q hq e=>by have:=o' q hq;omega) o' (B'.az off v') K2⟩
def pj {enc:α->List ZR} {L M:List α} {W:Nat->Prop} (hWb:W b) (hWo:∀q,ay lv q->W q)
  (hk:∀x,(enc x).length=k) (h1c:∀x,∀v∈enc x,v.oneCell'=ZT) (hs:cr enc k H lv L) (hn:∀q,ay lv q->C<=q) (hH:C<=H.size) (hx:bk enc k H sv M) (hz:z.size=k) (hb:bytes<=64) (h1:L.length+M.length<=1000000000)
  (hB:Bl H b cs) (hbC:b<C) (hoff:off<cs.length) (hf:f d=Z7 (ZV ⟨b,0,ZU⟩)) (hap:(p==a)=ZS)
  (hK:∀v' H',cr enc k H' v' (L++M)->(∀q,ay v' q->ay lv q\/H.size<=q)->Bl H' b (cs.set off v')->af (fun q=>q=b\/ay lv q) H H'->Q f H'):
  jn ZS T k bytes z lv sv H (mg P W H (.t a) (.px (.t p) ZU (.fa off (.v d)) (.wcons .no ZU (.st (.t p) (.t a)) .done .wnil)) e f Q):=by
 refine Ll hk h1c hs hx hz (by unfold maxLen;omega) (Nat.le_trans (Nat.mul_le_mul h1 hb) (by omega)) fun v' H' O' K' o'=>?_;have G7:¬a=p:=fun h=>by simp[h]at hap
 have B':=K'.bl hB (fun h=>by have:=hn b h;omega);have hsl:aq v':=by obtain⟨_,_,_,rfl⟩:=O'.shape;trivial
 have cI:=K'.size;refine⟨K'.mono fun q _ h=>hWo q h,?_⟩;have K2:af (fun q=>q=b\/ay lv q) H (az H' ⟨b,off,ZU⟩ v'):=(K'.mono fun q _ h=>.inr h).az _ (.inl (.inl rfl));have K3:af W H' (az H' ⟨b,off,ZU⟩ v'):=(af.refl _ _).az _ (.inl hWb);simp only[cQ,en,vw,vv,ek,PX.free,PX.pre,PX.val,KN,k7,iW,gQ,nV,oo,jo,bD,hf,fc,fQ,Zt,if_true,G7,if_false,EX.wp,bw,Uy,aJ,and_true,true_and];exact⟨⟨B'.bw hoff,aK hsl⟩,K3,hK v' _ (O'.ai ((af.refl (fun q=>q=b) H').az v' (.inl rfl)) fun q hq e=>by
  rcases o' q hq with h|h
  ·have:=hn q h;omega
  ·omega) o' (B'.az off v') K2⟩
def wx {enc:α->List ZR} {L M:List α}
  (hk:∀x,(enc x).length=k) (h1c:∀x,∀v∈enc x,v.oneCell'=ZT) (hs:cr enc k H lv L) (hn:∀q,ay lv q->C<=q) (hH:C<=H.size) (hx:bk enc k H sv M) (hz:z.size=k) (hb:bytes<=64) (h1:L.length+M.length<=1000000000)
  (hB:Bl H b cs) (hbC:b<C) (hoff:off<cs.length) (hf:f d=Z7 (ZV ⟨b,0,ZU⟩)) (hap:(p==a)=ZS)
  (hK:∀v' H',cr enc k H' v' (L++M)->(∀q,ay v' q->C<=q)->Bl H' b (cs.set off v')->af (fun q=>q=b\/C<=q) H H'->Q f H'):
  jn ZS T k bytes z lv sv H (zG P (.t a) [.p (.t p) (.fa off (.v d)),.e .no (.st (.t p) (.t a))] e f Q):=by
 refine rO C hk h1c hs hn hH hx hz hb h1 fun v' H' O' o' K'=>?_;have G7:¬a=p:=fun h=>by simp[h]at hap
 have B':=K'.bl hB (by omega);have hsl:aq v':=by obtain⟨_,_,_,rfl⟩:=O'.shape;trivial
 have K2:af (fun q=>q=b\/C<=q) H (az H' ⟨b,off,ZU⟩ v'):=(K'.mono fun q _ h=>.inr h).az _ (.inl (.inl rfl));rw[ae];simp only[Lg,Lh,zN,ae,PX.pre,PX.val,KN,k7,iW,gQ,nV,oo,jo,bD,hf,fc,fQ,Zt,if_true,G7,if_false,EX.wp,bw,Uy,and_true,true_and];exact⟨⟨B'.bw hoff,aK hsl⟩,hK v' _ (O'.ai ((af.refl (fun q=>q=b) H').az v' (.inl rfl)) fun q hq e=>by have:=o' q hq;omega) o' (B'.az off v') K2⟩
attribute [go_sem] zS zU zV if_true if_false
end Go.Mg
