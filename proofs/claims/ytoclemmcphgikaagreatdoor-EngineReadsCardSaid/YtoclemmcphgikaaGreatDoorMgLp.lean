/- Lemmas of ours. No conditions. -/
import Derived.Test.YtoclemmcphgikaaGreatDoorMgEl
set_option linter.all false
namespace Go.Mg
open Go Go.RowKit
theorem bd {l:List Value} (h:l.all (fun v=>v.oneCell')=true):bO l.toArray:=by
 intro x hx;rw[List.all_eq_true]at h;exact h x (by simpa using hx)
theorem aI {v:Value} (h:aq v):v.oneCell'=true:=by
 cases v<;>first|rfl|exact h.elim
variable {P:Program} {d n b k bytes a p off C:Nat} {x:A} {r:List O} {e:Env} {f:Fr} {Q:Fr->Hp->Prop} {H:Hp} {z:Array Value} {T:TypeId} {cs:List Value} {α:Type} {lv sv:Value}
theorem aN (cs:List Value)
  (hx:A.rd e (bL f d (.pointer (some ⟨H.size,0,none⟩))) x=.agg cs.toArray) (hn:cs.length=n) (hz:z.size=n) (h1:cs.all (fun v=>v.oneCell')=true)
  (h:∀H' b,b=H.size->H'.size=H.size+1->Bl H' b cs->af (fun _=>False) H H'->ops P r e (bL f d (.pointer (some ⟨b,0,none⟩))) H' Q):
  yg P (.v d) (.e .no (.stn n (.v d) x)::r) e f Q (.pointer (some ⟨H.size,0,none⟩)) (H.push (.cells z T)):=by
 have hB:Bl (H.push (.cells z T)) H.size z.toList:=Bl.cS _ _ _;have Tt:=hB.aB 0 cs;have hw:pU z.toList 0 cs=cs:=oy _ _ (by simp[hn,hz]);rw[hw]at Tt;have e1:(bL f d (.pointer (some ⟨H.size,0,none⟩))) d=.pointer (some ⟨H.size,0,none⟩):=by simp[bL]
 rw[ae];simp only[CM,Nb,IJ,EX.wp,jG,e1,hx];refine⟨⟨hB.bM (by simp[hz]),by simpa[Value.cells]using hn,by simpa[Value.cells]using bd h1⟩,?_⟩;rw[ae];simp only[iO,mR,J9,Value.cells];exact h _ H.size rfl (by rw[gD];simp) Tt ((af.refl _ _).push _|>.trans' ((af.refl (fun q=>q=H.size) _).aB _ (.inl rfl)) fun q hq e=>by omega)
theorem ef {d2:Nat} {y:A} (cs:List Value) (u:Value) (hd:(d==d2)=false)
  (hx:A.rd e (bL (bL f d (.pointer (some ⟨H.size,0,none⟩))) d2 u) x=.agg cs.toArray) (hy:A.rd e (bL f d (.pointer (some ⟨H.size,0,none⟩))) y=u) (hn:cs.length=n) (hz:z.size=n) (h1:cs.all (fun v=>v.oneCell')=true)
  (h:∀H' b,b=H.size->H'.size=H.size+1->Bl H' b cs->af (fun _=>False) H H'->ops P r e (bL (bL f d (.pointer (some ⟨b,0,none⟩))) d2 u) H' Q):
  yg P (.v d) (.p (.v d2) (.mv y)::.e .no (.stn n (.v d) x)::r) e f Q (.pointer (some ⟨H.size,0,none⟩)) (H.push (.cells z T)):=by
 have hB:Bl (H.push (.cells z T)) H.size z.toList:=Bl.cS _ _ _;have Tt:=hB.aB 0 cs;have hw:pU z.toList 0 cs=cs:=oy _ _ (by simp[hn,hz]);rw[hw]at Tt;have hd':¬d=d2:=by simpa using hd
 have e1:(bL (bL f d (.pointer (some ⟨H.size,0,none⟩))) d2 u) d=.pointer (some ⟨H.size,0,none⟩):=by simp[bL,hd']
 rw[ae];simp only[CM,Nb,II,PX.pre,PX.val,hy,IJ,EX.wp,jG,e1,hx,true_and];refine⟨⟨hB.bM (by simp[hz]),by simpa[Value.cells]using hn,by simpa[Value.cells]using bd h1⟩,?_⟩;rw[ae];simp only[iO,mR,J9,Value.cells];exact h _ H.size rfl (by rw[gD];simp) Tt ((af.refl _ _).push _|>.trans' ((af.refl (fun q=>q=H.size) _).aB _ (.inl rfl)) fun q hq e=>by omega)
theorem Dx {z:Value} (c:Value)
  (hx:A.rd e (bL f d (.pointer (some ⟨H.size,0,none⟩))) x=c) (h1:c.oneCell'=true)
  (h:∀H' b,b=H.size->H'.size=H.size+1->Bl H' b [c]->af (fun _=>False) H H'->ops P r e (bL f d (.pointer (some ⟨b,0,none⟩))) H' Q):
  yg P (.v d) (.e .no (.st (.v d) x)::r) e f Q (.pointer (some ⟨H.size,0,none⟩)) (H.push (.cells #[z] T)):=by
 have hB:Bl (H.push (.cells #[z] T)) H.size [z]:=Bl.cS _ _ _;have Tt:=hB.az 0 c;have e1:(bL f d (.pointer (some ⟨H.size,0,none⟩))) d=.pointer (some ⟨H.size,0,none⟩):=by simp[bL]
 rw[ae];simp only[CM,Nb,IJ,EX.wp,jG,e1,hx];refine⟨⟨hB.bu (by simp),h1⟩,?_⟩;rw[ae];simp only[iO,mR,RN];exact h _ H.size rfl (by rw[dF];simp) Tt ((af.refl _ _).push _|>.trans' ((af.refl (fun q=>q=H.size) _).az _ (.inl rfl)) fun q hq e=>by omega)
theorem FE {us:List Value} {R:Value->Hp->Prop} (B:Bl H b us) (hu:us.length=n) (hn:cs.length=n) (hs:cs.all (fun v=>v.oneCell')=true) (h:∀H',H'.size=H.size->Bl H' b cs->af (fun k=>k=b) H H'->R (.agg cs.toArray) H'):
  (bM H ⟨b,0,none⟩ n/\bO cs.toArray)/\(aM (aB H ⟨b,0,none⟩ cs) (.pointer (some ⟨b,0,none⟩)) n).isSome=true/\R (.agg ((aM (aB H ⟨b,0,none⟩ cs) (.pointer (some ⟨b,0,none⟩)) n).getD #[])) (aB H ⟨b,0,none⟩ cs):=by
 have hB:=B.aB 0 cs;have hw:pU us 0 cs=cs:=oy _ _ (by rw[hn,hu]);rw[hw]at hB;refine⟨⟨B.bM (o:=0) (n:=n) (by omega),bd hs⟩,?_⟩;rw[hB.aM n hn.symm];exact⟨rfl,h _ (gD _ _ _) hB ((af.refl _ _).aB _ (.inl rfl))⟩
def Ty (q i k:Nat) (J:Nat->Fr->Hp->Prop) (Qb:Ex->Fr->Hp->Prop):Ex->Fr->Hp->Prop
 |.n,f,H=>J (k+1) (bL f i (.int .i64 ((k+1:Nat):Int))) H
 |.x j,f,H=>if j=q then J (k+1) (bL f i (.int .i64 ((k+1:Nat):Int))) H else Qb (.x j) f H
 |.r,f,H=>Qb .r f H
@[go_sem] theorem aes (q i k:Nat) (J) (Qb) (f:Fr) (H:Hp):Ty q i k J Qb .n f H=J (k+1) (bL f i (.int .i64 ((k+1:Nat):Int))) H:=rfl
@[go_sem] theorem Zm (q i k j:Nat) (J) (Qb) (f:Fr) (H:Hp):Ty q i k J Qb (.x j) f H=if j=q then J (k+1) (bL f i (.int .i64 ((k+1:Nat):Int))) H else Qb (.x j) f H:=rfl
@[go_sem] theorem aet (q i k:Nat) (J) (Qb) (f:Fr) (H:Hp):Ty q i k J Qb .r f H=Qb .r f H:=rfl
theorem aD {c i t x0 q:Nat} {body:S} {Qb:Ex->Fr->Hp->Prop} (N:Nat) (ws:List Nat)
  (hws:(c::i::body.wr).all (ws.contains ·)=true) (hin:([i,c].contains n||body.wr.contains n||body.wr.contains i||body.wr.contains c||i==c)=false) (hN:N<=9223372036854775807) (hi:f i=.int .i64 0) (hn:f n=.int .i64 (N:Int))
  (J:Nat->Fr->Hp->Prop) (h0:J 0 f H)
  (hr:∀k g H',k<N->(over f g ws) i=.int .i64 (k:Int)->(over f g ws) n=.int .i64 (N:Int)->J k (over f g ws) H'->vc P body (Ty q i k J Qb) (bL (over f g ws) c (.bool true)) H')
  (he:∀g H',(over f g ws) i=.int .i64 (N:Int)->J N (over f g ws) H'->Qb (.x x0) (bL (over f g ws) c (.bool false)) H'):
  vc P (.loop (.seq (.reg [.p (.v c) (.cm .lss .i64 (.v i) (.v n))]) (.seq (.ite (.v c) .skip (.exit x0)) (.seq (.blk q body) (.reg [.p (.t t) (.ar .add .i64 (.v i) (.c (.int .i64 1))),.p (.v i) (.mv (.t t))]))))) Qb f H:=by
 simp only[Bool.or_eq_false_iff,List.contains_cons,List.contains_nil,Bool.or_false,beq_eq_false_iff_ne,ne_eq]at hin;obtain⟨⟨⟨⟨⟨hni,hnc⟩,hnb⟩,hib⟩,hcb⟩,hic⟩:=hin;have aeu:n∉body.wr:=by simpa using hnb
 have aev:i∉body.wr:=by simpa using hib
 have hsub:(S.seq (.reg [.p (.v c) (.cm .lss .i64 (.v i) (.v n))]) (.seq (.ite (.v c) .skip (.exit x0)) (.seq (.blk q body) (.reg [.p (.t t) (.ar .add .i64 (.v i) (.c (.int .i64 1))),.p (.v i) (.mv (.t t))])))).wr.all (ws.contains ·)=true:=by
  rw[List.all_eq_true]at hws⊢;intro y hy;refine hws y ?_;simp[S.wr,O.wr,D.wr]at hy;rcases hy with rfl|hy|rfl
  ·simp
  ·simp[hy]
  ·simp
 refine aS ws hsub (fun m g A=>∃k:Nat,k<=N/\m=N -k/\g i=.int .i64 (k:Int)/\g n=.int .i64 (N:Int)/\J k g A) N ⟨0,by omega,by omega,hi,hn,h0⟩ ?_;rintro m g A ⟨k,hk,rfl,gi,gn,hJ⟩;generalize hG:over f g ws=G at*;simp only[jF,M9,II,yn,ym,PX.pre,PX.val,jG,gi,gn,CM,Nb,IK,cmI,and_self,true_and,Value.i,Yr];have e1:(bL G c (.bool (decide ((k:Int)<(N:Int))))) c=.bool (decide ((k:Int)<(N:Int))):=by simp[bL]
 rw[e1];refine aL (fun hlt=>?_) (fun jN=>?_)
 ·have hlt:k<N:=by omega
  have e2:decide ((k:Int)<(N:Int))=true:=decide_eq_true (by omega);rw[e2];simp only[Sv,ym,jF,Yk];have:=hr k g A hlt (by rw[hG];exact gi) (by rw[hG];exact gn) (by rw[hG];exact hJ);rw[hG]at this;refine fu body _ _ _ _ ?_ this;intro ex f1 H1 h1 hkp;have k1:f1 i=.int .i64 (k:Int):=by rw[hkp i aev];simp[bL,hic,gi]
  have k2:f1 n=.int .i64 (N:Int):=by rw[hkp n aeu];simp[bL,hnc,gn]
  have fin:J (k+1) (bL f1 i (.int .i64 ((k+1:Nat):Int))) H1->vc P (.reg [.p (.t t) (.ar .add .i64 (.v i) (.c (.int .i64 1))),.p (.v i) (.mv (.t t))]) (tW (fun m g A=>∃k:Nat,k<=N/\m=N -k/\g i=.int .i64 (k:Int)/\g n=.int .i64 (N:Int)/\J k g A) (N -k) Qb) f1 H1:=fun hJ'=>by
   have w1:IntKind.i64.wrap ((k:Int)+1)=((k+1:Nat):Int):=by rw[IntWalk.i64_in _ (by omega)];omega
   simp only[M9,II,yn,PX.pre,PX.val,jG,rd_c,il,k1,fZ,mN,CM,Nb,bw,if_true,IK,arI,Value.i,w1,Sz,and_self,true_and];exact⟨N -(k+1),by omega,k+1,by omega,rfl,by simp[bL],by simp[bL,hni,k2],hJ'⟩
  cases ex with
  |n=>exact fin h1
  |r=>exact h1
  |x j=>
   simp only[Zm,Na]at h1⊢
   split
   ·rename_i hj;rw[if_pos hj]at h1;exact fin h1
   ·rename_i hj;rw[if_neg hj]at h1;exact h1
 ·have:k=N:=by omega
  subst this;have e2:decide ((k:Int)<(k:Int))=false:=decide_eq_false (by omega);rw[e2];simp only[Sw,Sx,Sy];have:=he g A (by rw[hG];exact gi) (by rw[hG];exact hJ);rw[hG]at this;exact this
theorem mC {enc:α->List Value} {L M:List α}
  (hk:∀x,(enc x).length=k) (h1c:∀x,∀v∈enc x,v.oneCell'=true) (hs:bT enc k H lv L) (hn:∀q,ax lv q->C<=q) (hH:C<=H.size) (hx:bk enc k H sv M) (hz:z.size=k) (hb:bytes<=64) (h1:L.length+M.length<=1000000000)
  (hB:Bl H b cs) (WZ:b<C) (hoff:off<cs.length) (hf:f d=.pointer (some ⟨b,0,none⟩)) (hap:(p==a)=false)
  (hK:∀v' H',bT enc k H' v' (L++M)->(∀q,ax v' q->C<=q)->Bl H' b (cs.set off v')->af (fun q=>q=b\/C<=q) H H'->Q f H'):
  iM false T k bytes z lv sv H (la P (fun q=>q=b\/C<=q) H (.t a) (.px (.t p) none (.fa off (.v d)) (.wcons .no none (.st (.t p) (.t a)) .done .wnil)) e f Q):=by
 refine qk C hk h1c hs hn hH hx hz hb h1 fun v' H' O' o' K'=>?_;have FG:¬a=p:=fun h=>by simp[h]at hap
 have B':=K'.bl hB (by omega);have hsl:aq v':=by obtain⟨_,_,_,rfl⟩:=O'.shape;trivial
 refine⟨K'.mono fun q _ h=>.inr h,?_⟩;have K2:af (fun q=>q=b\/C<=q) H (az H' ⟨b,off,none⟩ v'):=(K'.mono fun q _ h=>.inr h).az _ (.inl (.inl rfl));have K3:af (fun q=>q=b\/C<=q) H' (az H' ⟨b,off,none⟩ v'):=(af.refl _ _).az _ (.inl (.inl rfl));simp only[cB,dK,uf,ue,dJ,PX.free,PX.pre,PX.val,Ix,jG,il,fZ,mN,mR,iO,bw,hf,et,fh,Nat.zero_add,if_true,FG,if_false,EX.wp,bu,RN,aJ,and_true,true_and];exact⟨⟨B'.bu hoff,aI hsl⟩,K3,hK v' _ (O'.ai ((af.refl (fun q=>q=b) H').az v' (.inl rfl)) fun q hq e=>by have:=o' q hq;omega) o' (B'.az off v') K2⟩
theorem nB {enc:α->List Value} {L M:List α} {W:Nat->Prop} (hWb:W b) (hWo:∀q,ax lv q->W q)
  (hk:∀x,(enc x).length=k) (h1c:∀x,∀v∈enc x,v.oneCell'=true) (hs:bT enc k H lv L) (hn:∀q,ax lv q->C<=q) (hH:C<=H.size) (hx:bk enc k H sv M) (hz:z.size=k) (hb:bytes<=64) (h1:L.length+M.length<=1000000000)
  (hB:Bl H b cs) (WZ:b<C) (hoff:off<cs.length) (hf:f d=.pointer (some ⟨b,0,none⟩)) (hap:(p==a)=false)
  (hK:∀v' H',bT enc k H' v' (L++M)->(∀q,ax v' q->ax lv q\/H.size<=q)->Bl H' b (cs.set off v')->af (fun q=>q=b\/ax lv q) H H'->Q f H'):
  iM false T k bytes z lv sv H (la P W H (.t a) (.px (.t p) none (.fa off (.v d)) (.wcons .no none (.st (.t p) (.t a)) .done .wnil)) e f Q):=by
 refine IN hk h1c hs hx hz (by unfold maxLen;omega) (Nat.le_trans (Nat.mul_le_mul h1 hb) (by omega)) fun v' H' O' K' o'=>?_;have FG:¬a=p:=fun h=>by simp[h]at hap
 have B':=K'.bl hB (fun h=>by have:=hn b h;omega);have hsl:aq v':=by obtain⟨_,_,_,rfl⟩:=O'.shape;trivial
 have ch:=K'.size;refine⟨K'.mono fun q _ h=>hWo q h,?_⟩;have K2:af (fun q=>q=b\/ax lv q) H (az H' ⟨b,off,none⟩ v'):=(K'.mono fun q _ h=>.inr h).az _ (.inl (.inl rfl));have K3:af W H' (az H' ⟨b,off,none⟩ v'):=(af.refl _ _).az _ (.inl hWb);simp only[cB,dK,uf,ue,dJ,PX.free,PX.pre,PX.val,Ix,jG,il,fZ,mN,mR,iO,bw,hf,et,fh,Nat.zero_add,if_true,FG,if_false,EX.wp,bu,RN,aJ,and_true,true_and];exact⟨⟨B'.bu hoff,aI hsl⟩,K3,hK v' _ (O'.ai ((af.refl (fun q=>q=b) H').az v' (.inl rfl)) fun q hq e=>by
  rcases o' q hq with h|h
  ·have:=hn q h;omega
  ·omega) o' (B'.az off v') K2⟩
theorem uT {enc:α->List Value} {L M:List α}
  (hk:∀x,(enc x).length=k) (h1c:∀x,∀v∈enc x,v.oneCell'=true) (hs:bT enc k H lv L) (hn:∀q,ax lv q->C<=q) (hH:C<=H.size) (hx:bk enc k H sv M) (hz:z.size=k) (hb:bytes<=64) (h1:L.length+M.length<=1000000000)
  (hB:Bl H b cs) (WZ:b<C) (hoff:off<cs.length) (hf:f d=.pointer (some ⟨b,0,none⟩)) (hap:(p==a)=false)
  (hK:∀v' H',bT enc k H' v' (L++M)->(∀q,ax v' q->C<=q)->Bl H' b (cs.set off v')->af (fun q=>q=b\/C<=q) H H'->Q f H'):
  iM false T k bytes z lv sv H (yg P (.t a) [.p (.t p) (.fa off (.v d)),.e .no (.st (.t p) (.t a))] e f Q):=by
 refine qk C hk h1c hs hn hH hx hz hb h1 fun v' H' O' o' K'=>?_;have FG:¬a=p:=fun h=>by simp[h]at hap
 have B':=K'.bl hB (by omega);have hsl:aq v':=by obtain⟨_,_,_,rfl⟩:=O'.shape;trivial
 have K2:af (fun q=>q=b\/C<=q) H (az H' ⟨b,off,none⟩ v'):=(K'.mono fun q _ h=>.inr h).az _ (.inl (.inl rfl));rw[ae];simp only[II,IJ,yn,ae,PX.pre,PX.val,Ix,jG,il,fZ,mN,mR,iO,bw,hf,et,fh,Nat.zero_add,if_true,FG,if_false,EX.wp,bu,RN,and_true,true_and];exact⟨⟨B'.bu hoff,aI hsl⟩,hK v' _ (O'.ai ((af.refl (fun q=>q=b) H').az v' (.inl rfl)) fun q hq e=>by have:=o' q hq;omega) o' (B'.az off v') K2⟩
attribute [go_sem] zS zU zV if_true if_false
end Go.Mg
