/- Lemmas of ours. No conditions. -/
import Derived.Test.YteeemadonfcliaaGreatDoorMgEl
set_option linter.all false
namespace Go.Mg
open Go Go.RowKit
theorem bE {l:List Value} (h:l.all (fun v=>v.oneCell')=true):bQ l.toArray:=by
 intro x hx;rw[List.all_eq_true]at h;exact h x (by simpa using hx)
theorem aM {v:Value} (h:ax v):v.oneCell'=true:=by
 cases v<;>first|rfl|exact h.elim
variable {P:Program} {d n:Nat} {x:A} {r:List O} {e:Env} {f:Fr} {Q:Fr->Hp->Prop} {H:Hp} {z:Array Value} {T:TypeId}
theorem bB (cs:List Value)
  (hx:A.rd e (bN f d (.pointer (some ⟨H.size,0,none⟩))) x=.agg cs.toArray) (hn:cs.length=n) (hz:z.size=n) (h1:cs.all (fun v=>v.oneCell')=true)
  (h:∀H' b,b=H.size->H'.size=H.size+1->Bl H' b cs->af (fun _=>False) H H'->ops P r e (bN f d (.pointer (some ⟨b,0,none⟩))) H' Q):
  vQ P (.v d) (.e .no (.stn n (.v d) x)::r) e f Q (.pointer (some ⟨H.size,0,none⟩)) (H.push (.cells z T)):=by
 have hB:Bl (H.push (.cells z T)) H.size z.toList:=Bl.cW _ _ _;have OF:=hB.aA 0 cs;have hw:iE z.toList 0 cs=cs:=nD _ _ (by simp[hn,hz]);rw[hw]at OF;have e1:(bN f d (.pointer (some ⟨H.size,0,none⟩))) d=.pointer (some ⟨H.size,0,none⟩):=by simp[bN]
 rw[ae];simp only[AQ,Je,EP,EX.wp,oD,e1,hx];refine⟨⟨hB.bK (by simp[hz]),by simpa[Value.cells]using hn,by simpa[Value.cells]using bE h1⟩,?_⟩;rw[ae];simp only[lU,rz,vy,Value.cells];exact h _ H.size rfl (by rw[dP];simp) OF ((af.refl _ _).push _|>.trans' ((af.refl (fun q=>q=H.size) _).aA _ (.inl rfl)) fun q hq e=>by omega)
theorem fR {d2:Nat} {y:A} (cs:List Value) (u:Value) (hd:(d==d2)=false)
  (hx:A.rd e (bN (bN f d (.pointer (some ⟨H.size,0,none⟩))) d2 u) x=.agg cs.toArray) (hy:A.rd e (bN f d (.pointer (some ⟨H.size,0,none⟩))) y=u) (hn:cs.length=n) (hz:z.size=n) (h1:cs.all (fun v=>v.oneCell')=true)
  (h:∀H' b,b=H.size->H'.size=H.size+1->Bl H' b cs->af (fun _=>False) H H'->ops P r e (bN (bN f d (.pointer (some ⟨b,0,none⟩))) d2 u) H' Q):
  vQ P (.v d) (.p (.v d2) (.mv y)::.e .no (.stn n (.v d) x)::r) e f Q (.pointer (some ⟨H.size,0,none⟩)) (H.push (.cells z T)):=by
 have hB:Bl (H.push (.cells z T)) H.size z.toList:=Bl.cW _ _ _;have OF:=hB.aA 0 cs;have hw:iE z.toList 0 cs=cs:=nD _ _ (by simp[hn,hz]);rw[hw]at OF;have hd':¬d=d2:=by simpa using hd
 have e1:(bN (bN f d (.pointer (some ⟨H.size,0,none⟩))) d2 u) d=.pointer (some ⟨H.size,0,none⟩):=by simp[bN,hd']
 rw[ae];simp only[AQ,Je,AP,PX.pre,PX.val,hy,EP,EX.wp,oD,e1,hx,true_and];refine⟨⟨hB.bK (by simp[hz]),by simpa[Value.cells]using hn,by simpa[Value.cells]using bE h1⟩,?_⟩;rw[ae];simp only[lU,rz,vy,Value.cells];exact h _ H.size rfl (by rw[dP];simp) OF ((af.refl _ _).push _|>.trans' ((af.refl (fun q=>q=H.size) _).aA _ (.inl rfl)) fun q hq e=>by omega)
theorem XL {b:Nat} {us cs:List Value} {R:Value->Hp->Prop} (B:Bl H b us) (hu:us.length=n) (hn:cs.length=n) (hs:cs.all (fun v=>v.oneCell')=true) (h:∀H',H'.size=H.size->Bl H' b cs->af (fun k=>k=b) H H'->R (.agg cs.toArray) H'):
  (bK H ⟨b,0,none⟩ n/\bQ cs.toArray)/\(aI (aA H ⟨b,0,none⟩ cs) (.pointer (some ⟨b,0,none⟩)) n).isSome=true/\R (.agg ((aI (aA H ⟨b,0,none⟩ cs) (.pointer (some ⟨b,0,none⟩)) n).getD #[])) (aA H ⟨b,0,none⟩ cs):=by
 have hB:=B.aA 0 cs;have hw:iE us 0 cs=cs:=nD _ _ (by rw[hn,hu]);rw[hw]at hB;refine⟨⟨B.bK (o:=0) (n:=n) (by omega),bE hs⟩,?_⟩;rw[hB.aI n hn.symm];exact⟨rfl,h _ (dP _ _ _) hB ((af.refl _ _).aA _ (.inl rfl))⟩
def J0 (q i k:Nat) (J:Nat->Fr->Hp->Prop) (Qb:Ex->Fr->Hp->Prop):Ex->Fr->Hp->Prop
 |.n,f,H=>J (k+1) (bN f i (.int .i64 ((k+1:Nat):Int))) H
 |.x j,f,H=>if j=q then J (k+1) (bN f i (.int .i64 ((k+1:Nat):Int))) H else Qb (.x j) f H
 |.r,f,H=>Qb .r f H
@[go_sem] theorem XM (q i k:Nat) (J) (Qb) (f:Fr) (H:Hp):J0 q i k J Qb .n f H=J (k+1) (bN f i (.int .i64 ((k+1:Nat):Int))) H:=rfl
@[go_sem] theorem OV (q i k j:Nat) (J) (Qb) (f:Fr) (H:Hp):J0 q i k J Qb (.x j) f H=if j=q then J (k+1) (bN f i (.int .i64 ((k+1:Nat):Int))) H else Qb (.x j) f H:=rfl
@[go_sem] theorem XN (q i k:Nat) (J) (Qb) (f:Fr) (H:Hp):J0 q i k J Qb .r f H=Qb .r f H:=rfl
theorem aO {c i t x0 q:Nat} {body:S} {Qb:Ex->Fr->Hp->Prop} (N:Nat) (ws:List Nat)
  (hws:(c::i::body.wr).all (ws.contains ·)=true) (hin:([i,c].contains n||body.wr.contains n||body.wr.contains i||body.wr.contains c||i==c)=false) (hN:N<=9223372036854775807) (hi:f i=.int .i64 0) (hn:f n=.int .i64 (N:Int))
  (J:Nat->Fr->Hp->Prop) (h0:J 0 f H)
  (hr:∀k g H',k<N->(over f g ws) i=.int .i64 (k:Int)->(over f g ws) n=.int .i64 (N:Int)->J k (over f g ws) H'->vc P body (J0 q i k J Qb) (bN (over f g ws) c (.bool true)) H')
  (he:∀g H',(over f g ws) i=.int .i64 (N:Int)->J N (over f g ws) H'->Qb (.x x0) (bN (over f g ws) c (.bool false)) H'):
  vc P (.loop (.seq (.reg [.p (.v c) (.cm .lss .i64 (.v i) (.v n))]) (.seq (.ite (.v c) .skip (.exit x0)) (.seq (.blk q body) (.reg [.p (.t t) (.ar .add .i64 (.v i) (.c (.int .i64 1))),.p (.v i) (.mv (.t t))]))))) Qb f H:=by
 simp only[Bool.or_eq_false_iff,List.contains_cons,List.contains_nil,Bool.or_false,beq_eq_false_iff_ne,ne_eq]at hin;obtain⟨⟨⟨⟨⟨F5,hnc⟩,hnb⟩,hib⟩,U6⟩,hic⟩:=hin;have XO:n∉body.wr:=by simpa using hnb
 have XP:i∉body.wr:=by simpa using hib
 have hsub:(S.seq (.reg [.p (.v c) (.cm .lss .i64 (.v i) (.v n))]) (.seq (.ite (.v c) .skip (.exit x0)) (.seq (.blk q body) (.reg [.p (.t t) (.ar .add .i64 (.v i) (.c (.int .i64 1))),.p (.v i) (.mv (.t t))])))).wr.all (ws.contains ·)=true:=by
  rw[List.all_eq_true]at hws⊢;intro y hy;refine hws y ?_;simp[S.wr,O.wr,D.wr]at hy;rcases hy with rfl|hy|rfl
  ·simp
  ·simp[hy]
  ·simp
 refine aL ws hsub (fun m g A=>∃k:Nat,k<=N/\m=N -k/\g i=.int .i64 (k:Int)/\g n=.int .i64 (N:Int)/\J k g A) N ⟨0,by omega,by omega,hi,hn,h0⟩ ?_;rintro m g A ⟨k,hk,rfl,gi,gn,hJ⟩;generalize hG:over f g ws=G at*;simp only[x8,EO,AP,su,AO,PX.pre,PX.val,oD,gi,gn,AQ,Je,AR,Rx,and_self,true_and,Value.i,NO];have e1:(bN G c (.bool (decide ((k:Int)<(N:Int))))) c=.bool (decide ((k:Int)<(N:Int))):=by simp[bN]
 rw[e1];refine aC (fun hlt=>?_) (fun gx=>?_)
 ·have hlt:k<N:=by omega
  have e2:decide ((k:Int)<(N:Int))=true:=decide_eq_true (by omega);rw[e2];simp only[Ja,AO,x8,NF];have:=hr k g A hlt (by rw[hG];exact gi) (by rw[hG];exact gn) (by rw[hG];exact hJ);rw[hG]at this;refine dS body _ _ _ _ ?_ this;intro ex f1 H1 h1 hkp;have k1:f1 i=.int .i64 (k:Int):=by rw[hkp i XP];simp[bN,hic,gi]
  have k2:f1 n=.int .i64 (N:Int):=by rw[hkp n XO];simp[bN,hnc,gn]
  have fin:J (k+1) (bN f1 i (.int .i64 ((k+1:Nat):Int))) H1->vc P (.reg [.p (.t t) (.ar .add .i64 (.v i) (.c (.int .i64 1))),.p (.v i) (.mv (.t t))]) (rp (fun m g A=>∃k:Nat,k<=N/\m=N -k/\g i=.int .i64 (k:Int)/\g n=.int .i64 (N:Int)/\J k g A) (N -k) Qb) f1 H1:=fun hJ'=>by
   have w1:IntKind.i64.wrap ((k:Int)+1)=((k+1:Nat):Int):=by rw[IntWalk.i64_in _ (by omega)];omega
   simp only[EO,AP,su,PX.pre,PX.val,oD,rd_c,vV,k1,oE,x9,AQ,Je,aV,if_true,AR,Rv,Value.i,w1,Jf,and_self,true_and];exact⟨N -(k+1),by omega,k+1,by omega,rfl,by simp[bN],by simp[bN,F5,k2],hJ'⟩
  cases ex with
  |n=>exact fin h1
  |r=>exact h1
  |x j=>
   simp only[OV,NG]at h1⊢
   split
   ·rename_i hj;rw[if_pos hj]at h1;exact fin h1
   ·rename_i hj;rw[if_neg hj]at h1;exact h1
 ·have:k=N:=by omega
  subst this;have e2:decide ((k:Int)<(k:Int))=false:=decide_eq_false (by omega);rw[e2];simp only[Jb,Jc,Jd];have:=he g A (by rw[hG];exact gi) (by rw[hG];exact hJ);rw[hG]at this;exact this
end Go.Mg
