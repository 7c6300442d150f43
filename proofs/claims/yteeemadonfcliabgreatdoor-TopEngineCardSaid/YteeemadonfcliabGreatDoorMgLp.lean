/- Lemmas of ours. No conditions. -/
import Derived.Test.YteeemadonfcliabGreatDoorMgEl
set_option linter.all false
namespace Go.Mg
open Go Go.RowKit
theorem bg {l:List Value} (h:l.all (fun v=>v.oneCell')=true):bI l.toArray:=by
 intro x hx;rw[List.all_eq_true]at h;exact h x (by simpa using hx)
theorem aI {v:Value} (h:aq v):v.oneCell'=true:=by
 cases v<;>first|rfl|exact h.elim
variable {P:Program} {d n b k bytes a p off C:Nat} {x:A} {r:List O} {e:Env} {f:Fr} {Q:Fr->Hp->Prop} {H:Hp} {z:Array Value} {T:TypeId} {cs:List Value} {α:Type} {lv sv:Value}
theorem bf (cs:List Value)
  (hx:A.rd e (bw f d (.pointer (some ⟨H.size,0,none⟩))) x=.agg cs.toArray) (hn:cs.length=n) (hz:z.size=n) (h1:cs.all (fun v=>v.oneCell')=true)
  (h:∀H' b,b=H.size->H'.size=H.size+1->Bl H' b cs->af (fun _=>False) H H'->ops P r e (bw f d (.pointer (some ⟨b,0,none⟩))) H' Q):
  tP P (.v d) (.e .no (.stn n (.v d) x)::r) e f Q (.pointer (some ⟨H.size,0,none⟩)) (H.push (.cells z T)):=by
 have hB:Bl (H.push (.cells z T)) H.size z.toList:=Bl.cH _ _ _;have NT:=hB.az 0 cs;have hw:nJ z.toList 0 cs=cs:=vm _ _ (by simp[hn,hz]);rw[hw]at NT;have e1:(bw f d (.pointer (some ⟨H.size,0,none⟩))) d=.pointer (some ⟨H.size,0,none⟩):=by simp[bw]
 rw[ae];simp only[yK,HM,yJ,EX.wp,lg,e1,hx];refine⟨⟨hB.bK (by simp[hz]),by simpa[Value.cells]using hn,by simpa[Value.cells]using bg h1⟩,?_⟩;rw[ae];simp only[gV,lp,yl,Value.cells];exact h _ H.size rfl (by rw[eG];simp) NT ((af.refl _ _).push _|>.trans' ((af.refl (fun q=>q=H.size) _).az _ (.inl rfl)) fun q hq e=>by omega)
theorem ff {d2:Nat} {y:A} (cs:List Value) (u:Value) (hd:(d==d2)=false)
  (hx:A.rd e (bw (bw f d (.pointer (some ⟨H.size,0,none⟩))) d2 u) x=.agg cs.toArray) (hy:A.rd e (bw f d (.pointer (some ⟨H.size,0,none⟩))) y=u) (hn:cs.length=n) (hz:z.size=n) (h1:cs.all (fun v=>v.oneCell')=true)
  (h:∀H' b,b=H.size->H'.size=H.size+1->Bl H' b cs->af (fun _=>False) H H'->ops P r e (bw (bw f d (.pointer (some ⟨b,0,none⟩))) d2 u) H' Q):
  tP P (.v d) (.p (.v d2) (.mv y)::.e .no (.stn n (.v d) x)::r) e f Q (.pointer (some ⟨H.size,0,none⟩)) (H.push (.cells z T)):=by
 have hB:Bl (H.push (.cells z T)) H.size z.toList:=Bl.cH _ _ _;have NT:=hB.az 0 cs;have hw:nJ z.toList 0 cs=cs:=vm _ _ (by simp[hn,hz]);rw[hw]at NT;have hd':¬d=d2:=by simpa using hd
 have e1:(bw (bw f d (.pointer (some ⟨H.size,0,none⟩))) d2 u) d=.pointer (some ⟨H.size,0,none⟩):=by simp[bw,hd']
 rw[ae];simp only[yK,HM,yI,PX.pre,PX.val,hy,yJ,EX.wp,lg,e1,hx,true_and];refine⟨⟨hB.bK (by simp[hz]),by simpa[Value.cells]using hn,by simpa[Value.cells]using bg h1⟩,?_⟩;rw[ae];simp only[gV,lp,yl,Value.cells];exact h _ H.size rfl (by rw[eG];simp) NT ((af.refl _ _).push _|>.trans' ((af.refl (fun q=>q=H.size) _).az _ (.inl rfl)) fun q hq e=>by omega)
theorem gS {z:Value} (c:Value)
  (hx:A.rd e (bw f d (.pointer (some ⟨H.size,0,none⟩))) x=c) (h1:c.oneCell'=true)
  (h:∀H' b,b=H.size->H'.size=H.size+1->Bl H' b [c]->af (fun _=>False) H H'->ops P r e (bw f d (.pointer (some ⟨b,0,none⟩))) H' Q):
  tP P (.v d) (.e .no (.st (.v d) x)::r) e f Q (.pointer (some ⟨H.size,0,none⟩)) (H.push (.cells #[z] T)):=by
 have hB:Bl (H.push (.cells #[z] T)) H.size [z]:=Bl.cH _ _ _;have NT:=hB.ax 0 c;have e1:(bw f d (.pointer (some ⟨H.size,0,none⟩))) d=.pointer (some ⟨H.size,0,none⟩):=by simp[bw]
 rw[ae];simp only[yK,HM,yJ,EX.wp,lg,e1,hx];refine⟨⟨hB.br (by simp),h1⟩,?_⟩;rw[ae];simp only[gV,lp,Mq];exact h _ H.size rfl (by rw[eF];simp) NT ((af.refl _ _).push _|>.trans' ((af.refl (fun q=>q=H.size) _).ax _ (.inl rfl)) fun q hq e=>by omega)
theorem Jc {us:List Value} {R:Value->Hp->Prop} (B:Bl H b us) (hu:us.length=n) (hn:cs.length=n) (hs:cs.all (fun v=>v.oneCell')=true) (h:∀H',H'.size=H.size->Bl H' b cs->af (fun k=>k=b) H H'->R (.agg cs.toArray) H'):
  (bK H ⟨b,0,none⟩ n/\bI cs.toArray)/\(aD (az H ⟨b,0,none⟩ cs) (.pointer (some ⟨b,0,none⟩)) n).isSome=true/\R (.agg ((aD (az H ⟨b,0,none⟩ cs) (.pointer (some ⟨b,0,none⟩)) n).getD #[])) (az H ⟨b,0,none⟩ cs):=by
 have hB:=B.az 0 cs;have hw:nJ us 0 cs=cs:=vm _ _ (by rw[hn,hu]);rw[hw]at hB;refine⟨⟨B.bK (o:=0) (n:=n) (by omega),bg hs⟩,?_⟩;rw[hB.aD n hn.symm];exact⟨rfl,h _ (eG _ _ _) hB ((af.refl _ _).az _ (.inl rfl))⟩
def NX (q i k:Nat) (J:Nat->Fr->Hp->Prop) (Qb:Ex->Fr->Hp->Prop):Ex->Fr->Hp->Prop
 |.n,f,H=>J (k+1) (bw f i (.int .i64 ((k+1:Nat):Int))) H
 |.x j,f,H=>if j=q then J (k+1) (bw f i (.int .i64 ((k+1:Nat):Int))) H else Qb (.x j) f H
 |.r,f,H=>Qb .r f H
@[go_sem] theorem abw (q i k:Nat) (J) (Qb) (f:Fr) (H:Hp):NX q i k J Qb .n f H=J (k+1) (bw f i (.int .i64 ((k+1:Nat):Int))) H:=rfl
@[go_sem] theorem To (q i k j:Nat) (J) (Qb) (f:Fr) (H:Hp):NX q i k J Qb (.x j) f H=if j=q then J (k+1) (bw f i (.int .i64 ((k+1:Nat):Int))) H else Qb (.x j) f H:=rfl
@[go_sem] theorem abx (q i k:Nat) (J) (Qb) (f:Fr) (H:Hp):NX q i k J Qb .r f H=Qb .r f H:=rfl
theorem aL {c i t x0 q:Nat} {body:S} {Qb:Ex->Fr->Hp->Prop} (N:Nat) (ws:List Nat)
  (hws:(c::i::body.wr).all (ws.contains ·)=true) (hin:([i,c].contains n||body.wr.contains n||body.wr.contains i||body.wr.contains c||i==c)=false) (hN:N<=9223372036854775807) (hi:f i=.int .i64 0) (hn:f n=.int .i64 (N:Int))
  (J:Nat->Fr->Hp->Prop) (h0:J 0 f H)
  (hr:∀k g H',k<N->(over f g ws) i=.int .i64 (k:Int)->(over f g ws) n=.int .i64 (N:Int)->J k (over f g ws) H'->vc P body (NX q i k J Qb) (bw (over f g ws) c (.bool true)) H')
  (he:∀g H',(over f g ws) i=.int .i64 (N:Int)->J N (over f g ws) H'->Qb (.x x0) (bw (over f g ws) c (.bool false)) H'):
  vc P (.loop (.seq (.reg [.p (.v c) (.cm .lss .i64 (.v i) (.v n))]) (.seq (.ite (.v c) .skip (.exit x0)) (.seq (.blk q body) (.reg [.p (.t t) (.ar .add .i64 (.v i) (.c (.int .i64 1))),.p (.v i) (.mv (.t t))]))))) Qb f H:=by
 simp only[Bool.or_eq_false_iff,List.contains_cons,List.contains_nil,Bool.or_false,beq_eq_false_iff_ne,ne_eq]at hin;obtain⟨⟨⟨⟨⟨Hi,hnc⟩,Wo⟩,hib⟩,hcb⟩,hic⟩:=hin;have aby:n∉body.wr:=by simpa using Wo
 have abz:i∉body.wr:=by simpa using hib
 have hsub:(S.seq (.reg [.p (.v c) (.cm .lss .i64 (.v i) (.v n))]) (.seq (.ite (.v c) .skip (.exit x0)) (.seq (.blk q body) (.reg [.p (.t t) (.ar .add .i64 (.v i) (.c (.int .i64 1))),.p (.v i) (.mv (.t t))])))).wr.all (ws.contains ·)=true:=by
  rw[List.all_eq_true]at hws⊢;intro y hy;refine hws y ?_;simp[S.wr,O.wr,D.wr]at hy;rcases hy with rfl|hy|rfl
  ·simp
  ·simp[hy]
  ·simp
 refine aP ws hsub (fun m g A=>∃k:Nat,k<=N/\m=N -k/\g i=.int .i64 (k:Int)/\g n=.int .i64 (N:Int)/\J k g A) N ⟨0,by omega,by omega,hi,hn,h0⟩ ?_;rintro m g A ⟨k,hk,rfl,gi,gn,hJ⟩;generalize hG:over f g ws=G at*;simp only[jz,HK,yI,pW,vk,PX.pre,PX.val,lg,gi,gn,yK,HM,Es,VC,and_self,true_and,Value.i,Sl];have e1:(bw G c (.bool (decide ((k:Int)<(N:Int))))) c=.bool (decide ((k:Int)<(N:Int))):=by simp[bw]
 rw[e1];refine aH (fun hlt=>?_) (fun jt=>?_)
 ·have hlt:k<N:=by omega
  have e2:decide ((k:Int)<(N:Int))=true:=decide_eq_true (by omega);rw[e2];simp only[MY,vk,jz,Sc];have:=hr k g A hlt (by rw[hG];exact gi) (by rw[hG];exact gn) (by rw[hG];exact hJ);rw[hG]at this;refine eK body _ _ _ _ ?_ this;intro ex f1 H1 h1 hkp;have k1:f1 i=.int .i64 (k:Int):=by rw[hkp i abz];simp[bw,hic,gi]
  have k2:f1 n=.int .i64 (N:Int):=by rw[hkp n aby];simp[bw,hnc,gn]
  have fin:J (k+1) (bw f1 i (.int .i64 ((k+1:Nat):Int))) H1->vc P (.reg [.p (.t t) (.ar .add .i64 (.v i) (.c (.int .i64 1))),.p (.v i) (.mv (.t t))]) (uq (fun m g A=>∃k:Nat,k<=N/\m=N -k/\g i=.int .i64 (k:Int)/\g n=.int .i64 (N:Int)/\J k g A) (N -k) Qb) f1 H1:=fun hJ'=>by
   have w1:IntKind.i64.wrap ((k:Int)+1)=((k+1:Nat):Int):=by rw[IntWalk.i64_in _ (by omega)];omega
   simp only[HK,yI,pW,PX.pre,PX.val,lg,rd_c,nO,k1,jA,qQ,yK,HM,aS,if_true,Es,VA,Value.i,w1,M6,and_self,true_and];exact⟨N -(k+1),by omega,k+1,by omega,rfl,by simp[bw],by simp[bw,Hi,k2],hJ'⟩
  cases ex with
  |n=>exact fin h1
  |r=>exact h1
  |x j=>
   simp only[To,HL]at h1⊢
   split
   ·rename_i hj;rw[if_pos hj]at h1;exact fin h1
   ·rename_i hj;rw[if_neg hj]at h1;exact h1
 ·have:k=N:=by omega
  subst this;have e2:decide ((k:Int)<(k:Int))=false:=decide_eq_false (by omega);rw[e2];simp only[MZ,M3,M4];have:=he g A (by rw[hG];exact gi) (by rw[hG];exact hJ);rw[hG]at this;exact this
theorem ko {enc:α->List Value} {L M:List α}
  (hk:∀x,(enc x).length=k) (h1c:∀x,∀v∈enc x,v.oneCell'=true) (hs:ct enc k H lv L) (hn:∀q,ay lv q->C<=q) (hH:C<=H.size) (hx:bk enc k H sv M) (hz:z.size=k) (hb:bytes<=64) (h1:L.length+M.length<=1000000000)
  (hB:Bl H b cs) (hbC:b<C) (hoff:off<cs.length) (hf:f d=.pointer (some ⟨b,0,none⟩)) (hap:(p==a)=false)
  (hK:∀v' H',ct enc k H' v' (L++M)->(∀q,ay v' q->C<=q)->Bl H' b (cs.set off v')->af (fun q=>q=b\/C<=q) H H'->Q f H'):
  jy false T k bytes z lv sv H (lq P (fun q=>q=b\/C<=q) H (.t a) (.px (.t p) none (.fa off (.v d)) (.wcons .no none (.st (.t p) (.t a)) .done .wnil)) e f Q):=by
 refine nS C hk h1c hs hn hH hx hz hb h1 fun v' H' O' o' K'=>?_;have Ce:¬a=p:=fun h=>by simp[h]at hap
 have B':=K'.bl hB (by omega);have hsl:aq v':=by obtain⟨_,_,_,rfl⟩:=O'.shape;trivial
 refine⟨K'.mono fun q _ h=>.inr h,?_⟩;have K2:af (fun q=>q=b\/C<=q) H (ax H' ⟨b,off,none⟩ v'):=(K'.mono fun q _ h=>.inr h).ax _ (.inl (.inl rfl));have K3:af (fun q=>q=b\/C<=q) H' (ax H' ⟨b,off,none⟩ v'):=(af.refl _ _).ax _ (.inl (.inl rfl));simp only[cj,gG,yN,yM,gF,PX.free,PX.pre,PX.val,Mo,lg,nO,jA,qQ,lp,gV,aS,hf,gU,iT,Nat.zero_add,if_true,Ce,if_false,EX.wp,br,Mq,aF,and_true,true_and];exact⟨⟨B'.br hoff,aI hsl⟩,K3,hK v' _ (O'.ag ((af.refl (fun q=>q=b) H').ax v' (.inl rfl)) fun q hq e=>by have:=o' q hq;omega) o' (B'.ax off v') K2⟩
theorem Cf {enc:α->List Value} {L M:List α} {W:Nat->Prop} (hWb:W b) (hWo:∀q,ay lv q->W q)
  (hk:∀x,(enc x).length=k) (h1c:∀x,∀v∈enc x,v.oneCell'=true) (hs:ct enc k H lv L) (hn:∀q,ay lv q->C<=q) (hH:C<=H.size) (hx:bk enc k H sv M) (hz:z.size=k) (hb:bytes<=64) (h1:L.length+M.length<=1000000000)
  (hB:Bl H b cs) (hbC:b<C) (hoff:off<cs.length) (hf:f d=.pointer (some ⟨b,0,none⟩)) (hap:(p==a)=false)
  (hK:∀v' H',ct enc k H' v' (L++M)->(∀q,ay v' q->ay lv q\/H.size<=q)->Bl H' b (cs.set off v')->af (fun q=>q=b\/ay lv q) H H'->Q f H'):
  jy false T k bytes z lv sv H (lq P W H (.t a) (.px (.t p) none (.fa off (.v d)) (.wcons .no none (.st (.t p) (.t a)) .done .wnil)) e f Q):=by
 refine Ey hk h1c hs hx hz (by unfold maxLen;omega) (Nat.le_trans (Nat.mul_le_mul h1 hb) (by omega)) fun v' H' O' K' o'=>?_;have Ce:¬a=p:=fun h=>by simp[h]at hap
 have B':=K'.bl hB (fun h=>by have:=hn b h;omega);have hsl:aq v':=by obtain⟨_,_,_,rfl⟩:=O'.shape;trivial
 have bU:=K'.size;refine⟨K'.mono fun q _ h=>hWo q h,?_⟩;have K2:af (fun q=>q=b\/ay lv q) H (ax H' ⟨b,off,none⟩ v'):=(K'.mono fun q _ h=>.inr h).ax _ (.inl (.inl rfl));have K3:af W H' (ax H' ⟨b,off,none⟩ v'):=(af.refl _ _).ax _ (.inl hWb);simp only[cj,gG,yN,yM,gF,PX.free,PX.pre,PX.val,Mo,lg,nO,jA,qQ,lp,gV,aS,hf,gU,iT,Nat.zero_add,if_true,Ce,if_false,EX.wp,br,Mq,aF,and_true,true_and];exact⟨⟨B'.br hoff,aI hsl⟩,K3,hK v' _ (O'.ag ((af.refl (fun q=>q=b) H').ax v' (.inl rfl)) fun q hq e=>by
  rcases o' q hq with h|h
  ·have:=hn q h;omega
  ·omega) o' (B'.ax off v') K2⟩
theorem rL {enc:α->List Value} {L M:List α}
  (hk:∀x,(enc x).length=k) (h1c:∀x,∀v∈enc x,v.oneCell'=true) (hs:ct enc k H lv L) (hn:∀q,ay lv q->C<=q) (hH:C<=H.size) (hx:bk enc k H sv M) (hz:z.size=k) (hb:bytes<=64) (h1:L.length+M.length<=1000000000)
  (hB:Bl H b cs) (hbC:b<C) (hoff:off<cs.length) (hf:f d=.pointer (some ⟨b,0,none⟩)) (hap:(p==a)=false)
  (hK:∀v' H',ct enc k H' v' (L++M)->(∀q,ay v' q->C<=q)->Bl H' b (cs.set off v')->af (fun q=>q=b\/C<=q) H H'->Q f H'):
  jy false T k bytes z lv sv H (tP P (.t a) [.p (.t p) (.fa off (.v d)),.e .no (.st (.t p) (.t a))] e f Q):=by
 refine nS C hk h1c hs hn hH hx hz hb h1 fun v' H' O' o' K'=>?_;have Ce:¬a=p:=fun h=>by simp[h]at hap
 have B':=K'.bl hB (by omega);have hsl:aq v':=by obtain⟨_,_,_,rfl⟩:=O'.shape;trivial
 have K2:af (fun q=>q=b\/C<=q) H (ax H' ⟨b,off,none⟩ v'):=(K'.mono fun q _ h=>.inr h).ax _ (.inl (.inl rfl));rw[ae];simp only[yI,yJ,pW,ae,PX.pre,PX.val,Mo,lg,nO,jA,qQ,lp,gV,aS,hf,gU,iT,Nat.zero_add,if_true,Ce,if_false,EX.wp,br,Mq,and_true,true_and];exact⟨⟨B'.br hoff,aI hsl⟩,hK v' _ (O'.ag ((af.refl (fun q=>q=b) H').ax v' (.inl rfl)) fun q hq e=>by have:=o' q hq;omega) o' (B'.ax off v') K2⟩
end Go.Mg
