/- Lemmas of ours. No conditions. -/
import Derived.Test.YtoclemmcphgikaaGreatDoorMgG3
open Nat renaming reduceEqDiff→Za,reduceAdd→Zb,reduceMul→Zc,reduceLeDiff→Zd,reduceLT→Ze
open Int renaming reduceBEq→Zf,reduceBNe→Zg,reduceLE→Zh,reduceLT→Zi
set_option linter.all false
set_option maxRecDepth 100000
namespace Go.Mg
open Go Go.RowKit
def PH (ι:aG):S:=
 kY [kC 4 (.int .i64 0)] (.seq (kY [kA 6 0,kV 7 (.m (.lenl (.t 6))),kC 8 (.int .i64 0)] (.blk 0 (.loop (kY [kH 9 8 7] (.seq (.ite (.v 9) .skip (.exit 0)) (.seq (.blk 1 (kY [kA 10 8,kB 5 10] (kY [kA 11 1,kA 12 0,kA 13 5,kI 14 1 12 13,kD 15 14,kV 16 (.cm .eql .i64 (.t 11) (.t 15))] (.ite (.v 16) (kY [kA 17 5,kB 4 17] .ret) .skip)))) (.reg [ke 18 8,kB 8 18]))))))) (kY [kC 4 (.int .i64 (-1))] .ret))
def PI:List RV:=[.t 4]
def Am (ι:aG):S:=
 kY [kC 2 (.bool false)] (kY [kA 3 0,kU 4 (.nil (.t 3)),kU 5 (.fa 8 (.t 4)),kD 6 5,kU 7 (.cm .gtr .i64 (.t 6) (.c (.int .i64 0))),kF 8 7,kS 9 8 true 0,kT 10 8 true (.nil (.t 9)),kT 11 8 true (.fa 7 (.t 10)),kT 12 8 true (.ld (.t 11)),kS 13 8 true 0,kT 14 8 true (.nil (.t 13)),kT 15 8 true (.fa 8 (.t 14)),kT 16 8 true (.ld (.t 15)),kT 17 8 true (.cm .gtr .i64 (.t 12) (.t 16)),kJ 18 8 17,kB 2 18] .ret)
def An:List RV:=[.t 2]
def jo (stop:List (List Int)->Bool):List (List Int)->List (List Int)->List (List Int)×Bool
 |seen,[]=>(seen,false)
 |seen,t::L=>if stop (seen++[t])=true then(seen++[t],true)else jo stop (seen++[t]) L
theorem Ao (stop:List (List Int)->Bool):∀(A B seen:List (List Int)),jo stop seen (A++B)=if(jo stop seen A).2=true then jo stop seen A else jo stop (jo stop seen A).1 B
 |[],B,seen=>by simp[jo]
 |t::A,B,seen=>by
  by_cases h:stop (seen++[t])=true
  ·have e1:jo stop seen (t::A++B)=(seen++[t],true):=by rw[List.cons_append,jo,if_pos h]
   have e2:jo stop seen (t::A)=(seen++[t],true):=by rw[jo,if_pos h]
   rw[e1,e2];rfl
  ·have e1:jo stop seen (t::A++B)=jo stop (seen++[t]) (A++B):=by rw[List.cons_append,jo,if_neg h]
   have e2:jo stop seen (t::A)=jo stop (seen++[t]) A:=by rw[jo,if_neg h]
   rw[e1,e2];exact Ao stop A B _
theorem Ap {stop:List (List Int)->Bool}:∀{L seen:List (List Int)},stop seen=false->(jo stop seen L).2=false->stop (jo stop seen L).1=false
 |[],seen,h,_=>h
 |t::L,seen,h,h2=>by
  rw[jo]at h2⊢
  by_cases e:stop (seen++[t])=true
  ·rw[if_pos e]at h2;cases h2
  ·rw[if_neg e]at h2⊢;exact Ap (by simpa using e) h2
def gN (w:Nat):Nat->Nat
 |0=>0
 |m+1=>w*(1+gN w m)
def GS (x:Int) (l:List Int):Int:=match l.findIdx? (fun u=>decide (u=x))with|none=>-1|some i=>(i:Int)
def xK (P:Program) (k:FuncId):Prop:=∀(l:List Int) (v:Value) (x:Int) (H:Hp),aO H v (iL l)->l.length<=1000000->an P k #[v,.int .i64 x] H fun r H'=>r=.int .i64 (GS x l)/\H'=H
variable {P:Program} {ι:aG} {k:FuncId}
theorem ZL (hk:al P k (PH ι) PI 2):xK P k:=by
 intro l v x H hv hl1;refine ah hk (args:=[_,_]) (by simp) ?_;unfold PH PI kA kB kC kD ke kH kI kV kY;simp only[go_sem,zS,↓reduceIte,Za,Zb,Zc,reduceCtorEq,ae,hv.aq,hv.len,aA];refine aS [9,5,16,4,8] rfl (fun n f H'=>∃i:Nat,i<=l.length/\n=l.length -i/\f 8=.int .i64 i/\(∀a<i,∀h:a<l.length,l[a]≠x)/\H'=H) l.length
  ⟨0,by omega,by omega,by rfl,fun a ha=>by omega,rfl⟩ ?_
 rintro n f H1 ⟨i,hi,rfl,hf,hx,rfl⟩;simp only[go_sem,zS,↓reduceIte,Za,Zb,Zc,reduceCtorEq,ae]at hf;simp only[go_sem,zS,↓reduceIte,Za,Zb,Zc,reduceCtorEq,hf];refine aL (fun hlt=>?_) (fun jN=>?_)
 ·have hlt:i<l.length:=by omega
  obtain⟨b,o,c,rfl,hlm,hc⟩:=hv.cells (by intro e;have h:=congrArg List.length e;rw[aA,List.length_nil]at h;omega);rw[aA]at hc hlm;have hci:=hc i hlt;rw[dk _ _ hlt]at hci;have egi:l.getD i 0=l[i]:=by rw[List.getD_eq_getElem?_getD,List.getElem?_eq_getElem hlt];rfl
  rw[egi]at hci
  by_cases h:x=l[i]
  ·have e:(x==l[i])=true:=by simpa using h
   have hr:l.findIdx? (fun u=>decide (u=x))=some i:=List.findIdx?_eq_some_iff_getElem.2 ⟨hlt,by simp[h],fun j hj=>by simpa using hx j hj (by omega)⟩;simp only[go_sem,zS,↓reduceIte,Za,Zb,Zc,reduceCtorEq,ae,hf,aA,ak,Nat.mul_one,hci,e,GS,hr];omega
  ·have e:(x==l[i])=false:=by simpa using h
   simp-implicitDefEqProofs (disch:=omega)only[go_sem,zS,↓reduceIte,Za,Zb,Zc,reduceCtorEq,ae,hf,aA,ak,Nat.mul_one,hci,e,IntWalk.i64_in];refine⟨by omega,l.length -(i+1),by omega,i+1,by omega,rfl,by simp,fun a ha YD=>?_⟩
   by_cases e2:a=i
   ·subst e2;exact fun h'=>h h'.symm
   ·exact hx a (by omega) YD
 ·have hr:l.findIdx? (fun u=>decide (u=x))=none:=List.findIdx?_eq_none_iff.2 fun y hy=>by
   obtain⟨a,ha,rfl⟩:=List.getElem_of_mem hy;simpa using hx a (by omega) ha
  simp only[go_sem,zS,↓reduceIte,Za,Zb,Zc,reduceCtorEq,ae,GS,hr]
abbrev S3:=Option Addr×Nat×Nat
def ZM (t:S3):Value:=.slice t.1 t.2.1 t.2.2
theorem iS {v:Value} (h:aq v):∃t,v=ZM t:=by
 cases v<;>first|exact⟨(_,_,_),rfl⟩|exact h.elim
abbrev Xn:=Int×Int×S3×S3
def xL (x:Xn):List Value:=[.int .u8 x.1,.int .i64 x.2.1,ZM x.2.2.1,ZM x.2.2.2]
theorem Ju (x:Xn):(xL x).length=4:=rfl
theorem Uv (x:Xn):∀v∈xL x,v.oneCell'=true:=by
 intro v hv;simp[xL,ZM]at hv;rcases hv with rfl|rfl|rfl|rfl<;>rfl
theorem ZN {α:Type} {enc:α->List Value} {k:Nat} (hk:∀x,(enc x).length=k) {H:Hp} {b c:Nat} {L:List Value} {l:List α} (hB:Bl H b L) (h1:l.length<=c) (h2:c*k<=L.length) (h3:L.take (l.length*k)=l.flatMap enc) {i:Nat} (hi:i<l.length) (x:α):
  bT enc k (Mg.aB H ⟨b,i*k,none⟩ (enc x)) (.slice (some ⟨b,0,none⟩) l.length c) (l.set i x):=by
 have hB':=hB.aB (i*k) (enc x);have hik:(i+1)*k<=l.length*k:=Nat.mul_le_mul_right k hi;have Mr:l.length*k<=c*k:=Nat.mul_le_mul_right k h1;rw[Nat.add_mul,Nat.one_mul]at hik;refine bT.bl hB' (by simp) h1 ?_ ?_
 ·rw[mu (by rw[hk];omega)];exact h2
 ·have e1:L.take (i*k)=(l.take i).flatMap enc:=by
   rw[<-yv hk l i (by omega),<-h3,List.take_take,Nat.min_eq_left (by omega)]
  have e2:(L.drop (i*k+k)).take (l.length*k -(i*k+k))=(l.drop (i+1)).flatMap enc:=by
   rw[<-SI hk l (i+1) (by omega),<-h3,Nat.add_mul,Nat.one_mul,List.drop_take]
  unfold pU;rw[hk,e1,List.set_eq_take_append_cons_drop,if_pos hi,List.flatMap_append,List.flatMap_cons,<-e2,<-List.append_assoc];have l1:((l.take i).flatMap enc++enc x).length=i*k+k:=by
   rw[List.length_append,ug hk,hk,List.length_take,Nat.min_eq_left (by omega)]
  rw[List.take_append,l1,List.take_of_length_le (by rw[l1];exact hik)]
def xM (P:Program) (k:FuncId):Prop:=∀(b:Nat) (cs:List Value) (lk:Int) (H:Hp),Bl H b cs->cs[8]?=some (.int .i64 0)->an P k #[.pointer (some ⟨b,0,none⟩)] H fun r H'=>r=.bool false/\H'=H
theorem PJ (hk:al P k (Am ι) An 1):xM P k:=by
 intro b cs lk H B h8;refine ah hk (args:=[_]) (by simp) ?_;unfold Am An kA kB kF kC kD kJ kS kT kU kY;have c8:cell H ⟨b,8,none⟩=some (.int .i64 0):=by rw[B.cell];exact h8
 have d:decide ((0:Int)>0)=false:=rfl;simp only[go_sem,Za,Zb,ae,c8,d]
end Go.Mg
namespace Go.Mg
open Go Go.RowKit
def PK (ι:aG):S:=
 (kY [kA 62 6,kA 63 0,kU 64 (.nil (.t 63)),kU 65 (.fa 6 (.t 64)),kD 66 65,kL 67 66,.e (.t 68) (.aV (ι.t 26) 1 1 [.t 67]),.e (.t 69) (.app false (ι.t 26) 1 8 #[.int .i64 0] (.t 62) (.t 68)),kB 6 69] (.reg [kA 70 0,kA 71 0,kU 72 (.nil (.t 71)),kU 73 (.fa 6 (.t 72)),kD 74 73,kU 75 (.m (.bld #[.int .u8 0,.int .i64 0,kZ,kZ] [])),.e (.t 76) (.aV (ι.t 368) 4 1 [.t 75]),.e (.t 77) (.app false (ι.t 368) 4 64 #[.int .u8 0,.int .i64 0,kZ,kZ] (.t 74) (.t 76)),kU 78 (.nil (.t 70)),kU 79 (.fa 6 (.t 78)),.e .no (.st (.t 79) (.t 77))]))
def Xo (ι:aG):S:=
 (kY [kA 102 100,kK 103 1 98 100,kD 104 103,kB 7 102,kB 8 104] (kY [kA 105 0,kU 106 (.nil (.t 105)),kU 107 (.fa 5 (.t 106)),kD 108 107,kA 109 5,kA 110 8,kI 111 1 108 109,.e .no (.st (.t 111) (.t 110))] (kY [kA 112 0,kA 113 6,kA 114 7,kI 115 1 113 114,kD 116 115,.e (.v 117) (.call (ι.f 367) [.t 112,.t 116])] (.ite (.v 117) (kY [kC 4 (.bool true)] .ret) .skip))))
def Xp (ι:aG):S:=
 (.dr (kW 41 (.mv (.v 0)) (kW 42 (.nil (.t 41)) (kW 43 (.fa 9 (.t 42)) (kW 44 (.ld (.t 43)) (kW 45 (.mv (.v 0)) (kW 46 (.nil (.t 45)) (kW 47 (.fa 5 (.t 46)) (kW 48 (.ld (.t 47)) (.wcons (.t 49) .none (.call (ι.f 159) [.t 48]) (.wcons (.t 50) .none (.callv (.t 44) [.t 49]) (kX 4 (.mv (.t 50)) .done) .wnil) .wnil))))))))))
def PL (ι:aG):S:=
 (kY [kA 81 0,kU 82 (.nil (.t 81)),kU 83 (.fa 6 (.t 82)),kD 84 83,kA 85 1,kA 86 5,kA 87 6,kU 88 (.m (.bld #[.int .u8 0,.int .i64 0,kZ,kZ] [(0,(1,.c (.int .u8 1))),(1,(1,.t 86)),(2,(1,.t 87))])),kI 89 4 84 85,.e .no (.stn 4 (.t 89) (.t 88))] (.seq (kY [kA 90 0,kU 91 (.nil (.t 90)),kU 92 (.fa 0 (.t 91)),kU 93 (.fa 0 (.t 92)),kD 94 93,kA 95 5,kI 96 1 94 95,kN 97 1 96,.e (.v 98) (.call (ι.f 139) [.t 97]),kO 99 98,kC 100 (.int .i64 0)] (.blk 2 (.loop (kY [kH 101 100 99] (.seq (.ite (.v 101) .skip (.exit 2)) (.seq (.blk 3 (Xo ι)) (.reg [ke 118 100,kB 100 118]))))))) (kY [kA 119 0,kU 120 (.nil (.t 119)),kU 121 (.fa 5 (.t 120)),kD 122 121,kA 123 5,kI 124 1 122 123,.e .no (.st (.t 124) (.c (.int .i64 0)))] (kY [kC 4 (.bool false)] .ret))))
def PN (ι:aG):S:=
 (kY [kC 6 (kZ)] (.seq (kY [kA 51 0,kU 52 (.nil (.t 51)),kU 53 (.fa 0 (.t 52)),kU 54 (.fa 0 (.t 53)),kD 55 54,kA 56 5,kI 57 1 55 56,kN 58 1 57,.e (.v 59) (.call (ι.f 135) [.t 58]),kC 60 (.int .i64 0)] (.blk 0 (.loop (kY [kH 61 60 59] (.seq (.ite (.v 61) .skip (.exit 0)) (.seq (.blk 1 (PK ι)) (.reg [ke 80 60,kB 60 80]))))))) (PL ι)))
def tx (ι:aG):S:=
 kY [kC 4 (.bool false)] (kY [kA 9 0,kU 10 (.nil (.t 9)),kU 11 (.fa 7 (.t 10)),kD 12 11,kU 13 (.ar .add .i64 (.t 12) (.c (.int .i64 1))),kU 14 (.nil (.t 9)),kU 15 (.fa 7 (.t 14)),.e .no (.st (.t 15) (.t 13))] (.seq (kY [kA 16 0,.e (.v 17) (.call (ι.f 366) [.t 16])] (.ite (.v 17) (kY [kC 4 (.bool true)] .ret) .skip)) (.seq (kY [kA 18 0,kU 19 (.nil (.t 18)),kU 20 (.fa 0 (.t 19)),kN 21 5 20,kA 22 0,kU 23 (.nil (.t 22)),kU 24 (.fa 5 (.t 23)),kD 25 24,.e (.v 26) (.call (ι.f 364) [.t 21,.t 25])] (.ite (.v 26) (kY [kA 27 0,kU 28 (.nil (.t 27)),kU 29 (.fa 6 (.t 28)),kD 30 29,kA 31 1,kU 32 (.m (.bld #[.int .u8 0,.int .i64 0,kZ,kZ] [(0,(1,.c (.int .u8 2)))])),kI 33 4 30 31,.e .no (.stn 4 (.t 33) (.t 32))] (kY [kC 4 (.bool false)] .ret)) .skip)) (kY [kA 34 0,kU 35 (.nil (.t 34)),kU 36 (.fa 5 (.t 35)),kD 37 36,.e (.t 38) (.call (ι.f 157) [.t 37,.c (.int .i64 0)]),kB 5 38] (.seq (kY [kA 39 5,kV 40 (.cm .lss .i64 (.t 39) (.c (.int .i64 0)))] (.ite (.v 40) (.seq (Xp ι) .ret) .skip)) (PN ι))))))
def tA:List RV:=[.t 4]
structure pw (H0:Hp) (Wb:Nat->Prop) (sB cq gH:Nat) (el di sa mo fv ev:Value) (H:Hp) (s:List Int) (nv:Value) (N:Nat):Prop where
 bj:af (fun _=>False) H0 H
 bs:H0.size<=sB
 bt:H0.size<=cq
 ne:sB≠cq
 wb:¬Wb sB/\¬Wb cq
 wbo:∀q,Wb q->H0.size<=q/\q<sB
 blk:∃lk:Int,Bl H sB [el,di,sa,mo,fv,.slice (some ⟨cq,0,none⟩) s.length gH,nv,.int .i64 lk,.int .i64 0,ev]
 st:bq H (.slice (some ⟨cq,0,none⟩) s.length gH) (iL s)
 nd:∃nl,bT xL 4 H nv nl/\nl.length=N
 no:∀q,ax nv q->H0.size<=q/\q≠sB/\q≠cq/\¬Wb q
def Lx (Wb:Nat->Prop) (sB cq:Nat) (nv:Value) (q:Nat):Prop:=q=sB\/q=cq\/Wb q\/ax nv q
variable {H0:Hp} {Wb:Nat->Prop} {sB cq gH:Nat} {el di sa mo fv ev:Value}
variable {H H':Hp} {s:List Int} {nv:Value} {N:Nat}
theorem pw.ai {W:Nat->Prop} (h:pw H0 Wb sB cq gH el di sa mo fv ev H s nv N) (hk:af W H H') (hw:∀q,W q->H0.size<=q) (h1:¬W sB) (h2:¬W cq) (h3:∀q,ax nv q->¬W q):pw H0 Wb sB cq gH el di sa mo fv ev H' s nv N:=by
 obtain⟨lk,hb⟩:=h.blk;obtain⟨nl,o,hn⟩:=h.nd;exact⟨h.bj.trans' hk fun q hq St=>by have:=hw q St;omega,h.bs,h.bt,h.ne,h.wb,h.wbo,⟨lk,hk.bl hb h1⟩,h.st.ai hk fun q hq=>by cases hq;exact h2,⟨nl,o.ai hk h3,hn⟩,h.no⟩
theorem pw.aj (h:pw H0 Wb sB cq gH el di sa mo fv ev H s nv N) (hk:af (fun _=>False) H H'):pw H0 Wb sB cq gH el di sa mo fv ev H' s nv N:=
 h.ai hk (by simp) (by simp) (by simp) (by simp)
theorem pw.lt (h:pw H0 Wb sB cq gH el di sa mo fv ev H s nv N):sB<H.size/\cq<H.size/\∀q,ax nv q->q<H.size:=by
 obtain⟨lk,hb⟩:=h.blk;obtain⟨nl,o,hn⟩:=h.nd;exact⟨hb.lt,h.st.bj rfl,fun q hq=>o.bj hq⟩
theorem ZO (h:pw H0 Wb sB cq gH el di sa mo fv ev H s nv N):∀q,Lx Wb sB cq nv q->H0.size<=q:=by
 rintro q (rfl|rfl|hq|hq)
 ·exact h.bs
 ·exact h.bt
 ·exact(h.wbo q hq).1
 ·exact(h.no q hq).1
theorem pw.set (h:pw H0 Wb sB cq gH el di sa mo fv ev H s nv N) {k:Nat} (hk:k<s.length) (u:Int):pw H0 Wb sB cq gH el di sa mo fv ev (az H ⟨cq,k,none⟩ (.int .i64 u)) (s.set k u) nv N:=by
 obtain⟨lk,hb⟩:=h.blk;obtain⟨nl,o,hn⟩:=h.nd;have ne:=h.ne;have K:af (fun q=>q=cq) H (az H ⟨cq,k,none⟩ (.int .i64 u)):=(af.refl _ _).az _ (.inl rfl);refine⟨h.bj.trans' K fun q hq e=>by have:=h.bt;omega,h.bs,h.bt,h.ne,h.wb,h.wbo,⟨lk,by rw[List.length_set];exact K.bl hb ne⟩,?_,⟨nl,o.ai K fun q hq e=>(h.no q hq).2.2.1 e,hn⟩,h.no⟩;rcases h.st with⟨e,_⟩|⟨b,c,L,e,h1,h2,hB,h3⟩
 ·cases e
 ·simp only[Value.slice.injEq,Option.some.injEq,Addr.mk.injEq,and_true]at e;obtain⟨rfl,e2,rfl⟩:=e;rw[aA]at h1 h3;have:=yu hB (l:=iL s) (by rw[aA];exact h1) h2 (by rw[aA];exact h3) k (.int .i64 u) (by rw[aA];exact hk);rw[lh]at this;rw[List.length_set];rw[aA]at this;exact this
theorem ZP {P:Program} {ι:aG} {f:Fr} {A:Hp} {cv:Value} {c0:List Int} {Qb:Ex->Fr->Hp->Prop}
  (h0:f 0=.pointer (some ⟨sB,0,none⟩)) (h6:f 6=cv) (S:pw H0 Wb sB cq gH el di sa mo fv ev A s nv N) (C:bq A cv (iL c0)) (hc:c0.length<=100000) (hN:N<2199023255552)
  (hcv:∀q,ax cv q->H0.size<=q/\q≠sB/\q≠cq/\¬ax nv q)
  (hK:∀f' A' nG Aq,(∀j,j≠6->f' j=f j)->f' 6=Aq->pw H0 Wb sB cq gH el di sa mo fv ev A' s nG (N+1)->bq A' Aq (iL (c0++[(N:Int)]))->(∀q,ax Aq q->ax cv q\/A.size<=q)->(∀q,ax nG q->ax nv q\/A.size<=q)->(∀q,ax Aq q->¬ax nG q)→
   af (fun q=>q=sB\/ax nv q\/ax cv q) A A'->Qb .n f' A'):vc P (PK ι) Qb f A:=by
 unfold PK kA kB kD kL kU kY kZ;obtain⟨lk,B⟩:=S.blk;obtain⟨nl,O,hn⟩:=S.nd;have lt:=S.lt;have c6:cell A ⟨sB,6,none⟩=some nv:=by rw[B.cell];rfl
 have ln:aU nv=N:=by rw[O.sl.len,hn]
 have sn:=O.sl.aq;simp only[go_sem,Za,Zb,h0,h6,c6,sn,ln];refine aF fun A1 b1 e1 z1 B1 K1=>?_;have bQ:Bl A1 b1 (iL [(N:Int)]):=B1;simp only[go_sem,Za,Zb];refine gU (C.ai K1 (by simp)) (aO.bl bQ 0 1 1 (by omega) (by simp[aA])) (iz [(N:Int)]) rfl (by simp[aA,maxLen];omega) (by simp[aA];omega) fun Aq A2 C2 K2 oc=>?_;have afB:∀q,ax cv q->q<A.size:=fun q hq=>C.bj hq;have s1:=K1.size;have S1:=S.aj K1;have S2:=S1.ai K2 (fun q hq=>(hcv q hq).1) (fun h=>(hcv _ h).2.1 rfl) (fun h=>(hcv _ h).2.2.1 rfl) (fun q hq h=>(hcv _ h).2.2.2 hq);obtain⟨lk2,B2⟩:=S2.blk;obtain⟨nl2,O2,hn2⟩:=S2.nd;have c62:cell A2 ⟨sB,6,none⟩=some nv:=by rw[B2.cell];rfl
 have sn2:=O2.sl.aq;have hcs:aq Aq:=C2.sl.aq;rw[ae];simp only[go_sem,Za,Zb,h0,c62];refine aF fun A3 b3 e3 z3 B3 K3=>?_;have S3:=S2.aj K3;obtain⟨nl3,O3,hn3⟩:=S3.nd;obtain⟨z0,hz0⟩:∃z0:Xn,z0=(0,0,(none,0,0),(none,0,0)):=⟨_,rfl⟩
 have xc:Bl A3 b3 (([z0]:List Xn).flatMap xL):=by rw[hz0];exact B3
 have X3:bk xL 4 A3 (.slice (some ⟨b3,0,none⟩) 1 1) [z0]:=bk.bl (l:=[z0]) xc (by simp[xL]) (by simp[xL]) (by simp);simp only[go_sem,Za,Zb];refine IN (m:=[z0]) Ju Uv O3 X3 rfl (by simp[hn3,maxLen];omega) (by simp[hn3];omega) fun nG A4 O4 K4 on=>?_;have s2:=K2.size;have s3:=K3.size;have s4:=K4.size;have B43:=K3.bl B2 (by simp);have hno:=S.no;have B44:=K4.bl B43 (fun h=>(hno _ h).2.1 rfl);have nsl:aq nG:=by obtain⟨_,_,_,rfl⟩:=O4.shape;trivial
 have t6:=B44.bu (o:=6) (by simp);have B5:=B44.az 6 nG;have K5:af (fun q=>q=sB) A4 (az A4 ⟨sB,6,none⟩ nG):=(af.refl _ _).az _ (.inl rfl);have o1:nG.oneCell'=true:=aI nsl;have Uw:∀q,ax nG q->ax nv q\/A3.size<=q:=on;have KA4:af (fun q=>ax nv q\/ax cv q) A A4:=((K1.any.trans (K2.mono fun q _ h=>.inr h)).trans K3.any).trans (K4.mono fun q _ h=>.inl h);have KA5:af (fun q=>q=sB\/ax nv q\/ax cv q) A (az A4 ⟨sB,6,none⟩ nG):=(KA4.mono fun q _ h=>.inr h).trans (K5.mono fun q _ h=>.inl h);have gl:=ZO S;rw[ae];simp only[go_sem,Za,Zb,h0,t6];have bs:=S.bs;have bt:=S.bt;refine⟨o1,?_⟩;rw[ae];simp only[go_sem,Za,Zb,ae];have fr:∀q,(q=sB\/ax nv q\/ax cv q)->H0.size<=q:=fun q h=>by
  rcases h with h|h|h
  ·omega
  ·exact(hno q h).1
  ·exact(hcv q h).1
 have C5:bq (az A4 ⟨sB,6,none⟩ nG) Aq (iL (c0++[(N:Int)])):=by
  have e:iL (c0++[(N:Int)])=iL c0++iL [(N:Int)]:=Ng _ _;rw[e];have d1:∀q,ax Aq q->q≠sB/\¬ax nv q:=fun q hq=>by
   rcases oc q hq with h|h
   ·exact⟨(hcv q h).2.1,(hcv q h).2.2.2⟩
   ·have:=lt.1;exact⟨by omega,fun h'=>by have:=lt.2.2 q h';omega⟩
  exact((C2.ai K3 (by simp)).ai K4 (fun q hq=>(d1 q hq).2)).ai K5 fun q hq=>(d1 q hq).1
 refine hK _ _ nG Aq (fun j hj=>by simp only[bL,hj,if_false]) (by rfl) ⟨S.bj.trans' KA5 fun q hq h=>by have:=fr q h;omega,S.bs,S.bt,S.ne,S.wb,S.wbo,⟨lk2,B5⟩,?_,⟨nl3++[z0],O4.ai K5 fun q hq e=>?_,by simp[hn3]⟩,fun q hq=>?_⟩ C5 (fun q hq=>?_) (fun q hq=>?_) (fun q hq h=>?_) KA5
 ·refine S.st.ai KA5 fun q hq h=>?_
  cases hq
  rcases h with h|h|h
  ·exact S.ne h.symm
  ·exact(hno _ h).2.2.1 rfl
  ·exact(hcv _ h).2.2.1 rfl
 ·rcases Uw q hq with h|h
  ·exact(hno q h).2.1 e
  ·have:=lt.1;omega
 ·rcases Uw q hq with h|h
  ·exact hno q h
  ·have h1:=lt.1;have h2:=lt.2.1;refine⟨by omega,by omega,by omega,fun hw=>?_⟩;have:=(S.wbo q hw).2;omega
 ·rcases oc q hq with h|h
  ·exact .inl h
  ·exact .inr (by omega)
 ·rcases Uw q hq with h|h
  ·exact .inl h
  ·exact .inr (by omega)
 ·have:=C2.bj hq;rcases Uw q h with h'|h'
  ·rcases oc q hq with h''|h''
   ·exact(hcv q h'').2.2.2 h'
   ·have:=lt.2.2 q h';omega
  ·omega
structure Jv (P:Program) (Wb:Nat->Prop) (ev:Value) (stop:List (List Int)->Bool) (J:List (List Int)->Hp->Prop):Prop where
 call:∃g ca,ev=.func (.func g) #[] ca/\bS P g=true/\∀seen t v H,stop seen=false->J seen H->aO H v (iL t)->(∀q,aT v q->¬Wb q)->an P g (#[v]++ca) H fun r H'=>r=.bool (stop (seen++[t]))/\J (seen++[t]) H'/\af Wb H H'
 ai:∀seen H H' W,stop seen=false->J seen H->af W H H'->(∀q,Wb q->¬W q)->J seen H'
def vy (P:Program) (k:FuncId) (H0:Hp) (Wb:Nat->Prop) (sB cq gH:Nat) (el di sa mo fv ev:Value) (p:pZ) (w:Nat) (stop:List (List Int)->Bool) (J:List (List Int)->Hp->Prop) (m:Nat):Prop:=
 ∀(s:List Int) (nv:Value) (N node:Nat) (seen:List (List Int)) (H:Hp),ko s=m->xe p.el.length s->pw H0 Wb sB cq gH el di sa mo fv ev H s nv N->node<N->N+gN w m<=2199023255552->stop seen=false->J seen H→
  an P k #[.pointer (some ⟨sB,0,none⟩),.int .i64 (node:Int)] H fun r H'=>r=.bool (jo stop seen (kn p (m+1) s)).2/\J (jo stop seen (kn p (m+1) s)).1 H'/\af (Lx Wb sB cq nv) H H'∧
   ((jo stop seen (kn p (m+1) s)).2=false->∃nG N',pw H0 Wb sB cq gH el di sa mo fv ev H' s nG N'/\N<=N'/\N'<=N+gN w m/\∀q,ax nG q->ax nv q\/H.size<=q)
theorem pw.node {node:Nat} (h:pw H0 Wb sB cq gH el di sa mo fv ev H s nv N) (hn:node<N) (x:Xn):∃bn c,nv=.slice (some ⟨bn,0,none⟩) N c/\bM H ⟨bn,node*4,none⟩ 4/\pw H0 Wb sB cq gH el di sa mo fv ev (aB H ⟨bn,node*4,none⟩ (xL x)) s nv N/\af (ax nv) H (aB H ⟨bn,node*4,none⟩ (xL x)):=by
 obtain⟨lk,hb⟩:=h.blk;obtain⟨nl,o,hl⟩:=h.nd;have hne:nl≠[]:=by rintro rfl;simp at hl;omega
 obtain⟨bn,c,L,rfl,h1,h2,hB,h3⟩:=o.some hne;have K:af (ax (.slice (some ⟨bn,0,none⟩) nl.length c)) H (aB H ⟨bn,node*4,none⟩ (xL x)):=(af.refl _ _).aB _ (.inl rfl);obtain⟨n1,n2,n3,n4⟩:=h.no bn rfl;subst hl;refine⟨bn,c,rfl,hB.bM (o:=node*4) (n:=4) (by omega),⟨h.bj.trans' K fun q hq e=>by have e':q=bn:=e;omega,h.bs,h.bt,h.ne,h.wb,h.wbo,⟨lk,K.bl hb fun e=>n2 e.symm⟩,h.st.ai K fun q hq e=>by cases hq;cases e;exact n3 rfl,⟨nl.set node x,?_,by simp⟩,h.no⟩,K⟩;exact ZN Ju hB h1 h2 h3 (i:=node) (by omega) x
end Go.Mg
namespace Go.Mg
open Go Go.RowKit
variable {H0:Hp} {Wb:Nat->Prop} {sB cq gH:Nat} {el di sa mo fv ev:Value}
def Ly (N n:Nat):List Int:=(List.range n).map fun j=>((N+j:Nat):Int)
theorem tB (N n:Nat):(Ly N n).length=n:=by simp[Ly]
theorem PO (N n:Nat):Ly N (n+1)=Ly N n++[((N+n:Nat):Int)]:=by simp[Ly,List.range_succ]
theorem ZQ (N n i:Nat) (h:i<(Ly N n).length):(Ly N n)[i]=((N+i:Nat):Int):=by simp[Ly]
theorem DZ (s:List Int) (k:Nat) (x u:Int):(s.set k x).set k u=s.set k u:=by simp
variable {n:Nat} {s:List Int}
theorem Ux (h:xe n s) (k:Nat) {u:Int} (hu:0<=u/\u<=256):xe n (s.set k u):=
 ⟨by rw[List.length_set];exact h.1,fun v hv=>by rcases List.mem_or_eq_of_mem_set hv with h'|rfl;exact h.2 v h';exact hu⟩
structure PQ (P:Program) (ι:aG):Prop where
 full:xM P (ι.f 366)
 brk:qQ P ι (ι.f 364)
 idx:xK P (ι.f 157)
 cln:fO P (ι.f 159)
 len:oK P (ι.f 135)
 lis:mB P ι (ι.f 139)
def iu (p:pZ) (m kk:Nat) (s:List Int) (us:List Nat):List (List Int):=us.flatMap fun u=>kn p m (s.set kk ((u:Nat):Int))
theorem ZR {P:Program} {ι:aG} (c:PQ P ι) {p:pZ} {fx:List Int} {vs:List Value} {ms:List MV} {w m kk node N:Nat} {stop:List (List Int)->Bool} {J:List (List Int)->Hp->Prop} (hev:Jv P Wb ev stop J)
  (ih:vy P (ι.f 367) H0 Wb sB cq gH el di sa mo fv ev p w stop J m) (PR:DW H0 p fx el di sa mo fv vs ms) (hT:bg ι H0) (hG:ff p)
  {f:Fr} {A:Hp} {nv cv:Value} {seen:List (List Int)} {Qb:Ex->Fr->Hp->Prop}
  (h0:f 0=.pointer (some ⟨sB,0,none⟩)) (h1:f 1=.int .i64 (node:Int)) (h5:f 5=.int .i64 (kk:Int)) (h6:f 6=cv)
  (S:pw H0 Wb sB cq gH el di sa mo fv ev A s nv (N+n)) (C:bq A cv (iL (Ly N n))) (hcv:∀q,ax cv q->H0.size<=q/\q≠sB/\q≠cq/\¬ax nv q/\¬Wb q)
  (hU:xe p.el.length s) (hz:ko s=m+1) (hf:s.findIdx? (fun u=>decide (u=0))=some kk) (hn:n=(aW (eV p kk)).length) (hnode:node<N) (hB:N+n+n*gN w m<=2199023255552) (hst:stop seen=false) (hJ:J seen A)
  (hR:∀f' A',f' 4=.bool (jo stop seen (iu p (m+1) kk s (aW (eV p kk)))).2->J (jo stop seen (iu p (m+1) kk s (aW (eV p kk)))).1 A'->af (Lx Wb sB cq nv) A A'→
   ((jo stop seen (iu p (m+1) kk s (aW (eV p kk)))).2=false->∃nG N',pw H0 Wb sB cq gH el di sa mo fv ev A' s nG N'/\N+n<=N'/\N'<=N+n+n*gN w m/\∀q,ax nG q->ax nv q\/A.size<=q)->Qb .r f' A'):vc P (PL ι) Qb f A:=by
 unfold PL kA kB kC kD ke kH kI kN kO kU kY kZ;obtain⟨lk,B⟩:=S.blk;have c6:cell A ⟨sB,6,none⟩=some nv:=by rw[B.cell];rfl
 obtain⟨ca,cl,cc,rfl⟩:=C.shape;obtain⟨bn,cn,hnv,hok,S1,K1⟩:=S.node (show node<N+n by omega) (1,(kk:Int),(ca,cl,cc),(none,0,0));have e1:xL (1,(kk:Int),(ca,cl,cc),(none,0,0))=[.int .u8 1,.int .i64 (kk:Int),.slice ca cl cc,.slice none 0 0]:=rfl;rw[e1]at S1 K1;have hkl:=(cM hf).1;have a1:bO #[Value.int .u8 1,.int .i64 (kk:Int),.slice ca cl cc,.slice none 0 0]:=bd rfl;have hnn:(0:Int)<=(node:Int)/\(node:Int)<((N+n:Nat):Int):=by omega
 have hw:iW (iW (iW #[Value.int IntKind.u8 0,Value.int IntKind.i64 0,Value.slice none 0 0,Value.slice none 0 0] 0 [Value.int IntKind.u8 1]) 1 [Value.int IntKind.i64 ↑kk]) 2 [.slice ca cl cc]=#[Value.int .u8 1,.int .i64 (kk:Int),.slice ca cl cc,.slice none 0 0]:=rfl;simp-implicitDefEqProofs only[go_sem,↓reduceIte,Za,Zb,Zc,reduceCtorEq,Zf,Zg,Zh,Zi,Zd,Ze,h0,h1,h5,h6,c6,hnv,ak,hok,hnn,hw];refine⟨a1,?_⟩;rw[ae];generalize aB A ⟨bn,node*4,none⟩ [Value.int IntKind.u8 1,Value.int IntKind.i64 ↑kk,Value.slice ca cl cc,Value.slice none 0 0]=A1 at S1 K1⊢;have hwn:∀q,Wb q->¬ax nv q:=fun q hq h=>(S.no q h).2.2.2 hq;have J1:J seen A1:=hev.ai seen A A1 _ hst hJ K1 hwn;obtain⟨lk1,B1⟩:=S1.blk;have c0:cell A1 ⟨sB,0,none⟩=some el:=by rw[B1.cell];rfl
 have PR1:=PR.aj S1.bj;have hvl:=PR.el;have hul:=hU.1;have hgn:=hG.n;obtain⟨sb,so,sc,e,hld⟩:=PR1.e.ld1 (i:=kk) (by omega);have hS:=PR1.es kk (by omega);generalize vs.getD kk undef=wv at*;simp-implicitDefEqProofs only[go_sem,↓reduceIte,Za,Zb,Zc,reduceCtorEq,Zf,Zg,Zh,Zi,Zd,Ze,h0,h5,c0,e,ak,hvl,hld,aC];refine⟨by omega,?_⟩;refine(c.lis _ _ A1 (hT.ai S1.bj) hS).mono ?_;rintro lv A2 ⟨OL,ol,K2⟩;rw[ae];have Cr:aU lv=n:=by rw[OL.sl.len];simp[cG,hn]
 have DL:af (Lx Wb sB cq nv) A A2:=(K1.trans K2.any).mono fun q _ h=>.inr (.inr (.inr h));have S2:=S1.aj K2;have s1:=K1.size;have lt:=S.lt;have hno:=S.no;have wbo:=S.wbo;simp-implicitDefEqProofs only[go_sem,↓reduceIte,Za,Zb,Zc,reduceCtorEq,Zf,Zg,Zh,Zi,Zd,Ze,OL.sl.aq,Cr];refine aD n [101,7,8,117,4,100] rfl rfl (by omega) (by rfl) (by rfl) (fun i g X=>∃GU Ni x,pw H0 Wb sB cq gH el di sa mo fv ev X (s.set kk x) GU Ni/\N+n<=Ni/\Ni<=N+n+i*gN w m/\(∀q,ax GU q->ax nv q\/A2.size<=q)∧
  (jo stop seen (iu p (m+1) kk s ((aW (eV p kk)).take i))).2=false/\J (jo stop seen (iu p (m+1) kk s ((aW (eV p kk)).take i))).1 X/\af (Lx Wb sB cq nv) A X/\af (Lx Wb sB cq nv) A2 X/\bq X (.slice ca cl cc) (iL (Ly N n))/\bq X lv (cG (eV p kk))) ?_ ?_ ?_
 ·refine⟨nv,N+n,0,?_,Nat.le_refl _,by omega,fun q hq=>.inl hq,rfl,?_,DL,af.refl _ _,?_,OL⟩
  ·have:s.set kk 0=s:=by
    have h:=(cM hf).2.1;rw[List.getD_eq_getElem?_getD,List.getElem?_eq_getElem hkl,Option.getD_some]at h;rw[<-h];exact List.set_getElem_self hkl
   rw[this];exact S2
  ·exact hev.ai _ _ _ _ hst J1 K2 (by simp)
  ·exact(C.ai K1 fun q hq h=>(hcv q hq).2.2.2.1 h).ai K2 (by simp)
 ·rintro i g X hi gi gn ⟨GU,Ni,x,SX,n1,n2,no',hd,hJX,KX,Jk,CX,LX⟩;simp-implicitDefEqProofs only[go_sem,↓reduceIte,Za,Zb,Zc,reduceCtorEq,ae,Zf,Zg,Zh,Zi,Zd,Ze]at gi gn;obtain⟨u,hu⟩:∃u,u=(aW (eV p kk))[i]'(by omega):=⟨_,rfl⟩
  have hum:=(lu.1 (show u∈aW (eV p kk) by rw[hu];exact List.getElem_mem _)).2;have hur:=hG.us kk u hum;have YW:(cG (eV p kk)).length=n:=by simp[cG,hn]
  have hui:(cG (eV p kk))[i]?=some (.int .i64 (u:Int)):=by
   rw[List.getElem?_eq_getElem (by omega)];simp[cG,hu]
  have aeS:(iL (Ly N n))[i]?=some (.int .i64 ((N+i:Nat):Int)):=by
   have hl:i<(Ly N n).length:=by rw[tB];exact hi
   rw[dk _ _ hl,List.getD_eq_getElem?_getD,List.getElem?_eq_getElem hl,Option.getD_some,ZQ]
  obtain⟨b1,o1,q1,ev1,-,hc1⟩:=LX.sl.cells (by intro e;have:=congrArg List.length e;rw[YW]at this;simp at this;omega);rw[YW]at hc1 ev1;have hc1:=(hc1 i hi).trans hui;obtain⟨lkx,BX⟩:=SX.blk;have cx5:cell X ⟨sB,5,none⟩=some (.slice (some ⟨cq,0,none⟩) (s.set kk x).length gH):=by rw[BX.cell];rfl
  have Xm:=SX.set (k:=kk) (by simpa using hkl) (u:Int);rw[DZ]at Xm;have KS:af (fun q=>q=cq) X (az X ⟨cq,kk,none⟩ (.int .i64 (u:Int))):=(af.refl _ _).az _ (.inl rfl);have tS:(cell X ⟨cq,kk,none⟩).isSome=true/\rO X ⟨cq,kk,none⟩=false:=by
   rcases SX.st with⟨e,_⟩|⟨b,c',L,e,h1,h2,hB',h3⟩
   ·cases e
   ·simp only[Value.slice.injEq,Option.some.injEq,Addr.mk.injEq,and_true]at e;obtain⟨rfl,e2,rfl⟩:=e;rw[aA,List.length_set]at h1;exact hB'.bu (o:=kk) (by omega)
  have hkb:(0:Int)<=(kk:Int)/\(kk:Int)<((s.set kk x).length:Int):=by rw[List.length_set];omega
  unfold Xo kA kB kC kD kI kK kU kY;simp-implicitDefEqProofs only[go_sem,↓reduceIte,Za,Zb,Zc,reduceCtorEq,Zf,Zg,Zh,Zi,Zd,Ze,h0,h5,gi,ev1,ak,hc1,cx5,hkb,tS];refine⟨by omega,?_⟩;rw[ae];generalize az X ⟨cq,kk,none⟩ (.int .i64 (u:Int))=Y at Xm KS⊢;have dC:∀q,ax (.slice ca cl cc) q->q≠sB/\q≠cq/\¬ax GU q/\¬Wb q:=fun q hq=>by
   obtain⟨_,h2,h3,h4,h5⟩:=hcv q hq;refine⟨h2,h3,fun h=>?_,h5⟩;have:=C.bj hq;rcases no' q h with h'|h'
   ·exact h4 h'
   ·have:=K2.size;omega
  have dL:∀q,ax lv q->q≠sB/\q≠cq/\¬ax GU q/\¬Wb q:=fun q hq=>by
   have h1:=ol q hq;have h2:=OL.bj hq;refine⟨by omega,by omega,fun h=>?_,fun h=>?_⟩
   ·rcases no' q h with h'|h'
    ·have:=lt.2.2 q h';omega
    ·omega
   ·have:=(wbo q h).2;omega
  have CY:=CX.ai KS fun q hq=>(dC q hq).2.1;have LY:=LX.ai KS fun q hq=>(dL q hq).2.1;obtain⟨b2,o2,q2,ev2,-,hc2⟩:=CY.sl.cells (by intro e;have:=congrArg List.length e;rw[aA,tB]at this;simp at this;omega);rw[aA,tB]at hc2 ev2;have hc2:=(hc2 i hi).trans aeS;have JY:J (jo stop seen (iu p (m+1) kk s ((aW (eV p kk)).take i))).1 Y:=hev.ai _ _ _ _ (Ap hst hd) hJX KS fun q hq e=>by rw[e]at hq;exact S.wb.2 hq
  have hzz:ko (s.set kk (u:Int))=m:=by
   have:=DT hkl (cM hf).2.1 (u:=(u:Int)) (by omega);omega
  have hgi:i*gN w m+gN w m<=n*gN w m:=by
   have:(i+1)*gN w m<=n*gN w m:=Nat.mul_le_mul_right _ hi;rw[Nat.add_mul,Nat.one_mul]at this;exact this
  simp-implicitDefEqProofs only[go_sem,↓reduceIte,Za,Zb,Zc,reduceCtorEq,Zf,Zg,Zh,Zi,Zd,Ze,h0,h6,ev2,ak,hc2];refine⟨by omega,?_⟩;refine(ih (s.set kk (u:Int)) GU Ni (N+i) _ Y hzz (Ux hU kk (by omega)) Xm (by omega) (by omega) (Ap hst hd) JY).mono ?_;rintro r Z ⟨rfl,JZ,KZ,hgo⟩;have si:jo stop seen (iu p (m+1) kk s ((aW (eV p kk)).take (i+1)))=jo stop (jo stop seen (iu p (m+1) kk s ((aW (eV p kk)).take i))).1 (kn p (m+1) (s.set kk (u:Int))):=by
   have e:iu p (m+1) kk s ((aW (eV p kk)).take (i+1))=iu p (m+1) kk s ((aW (eV p kk)).take i)++kn p (m+1) (s.set kk (u:Int)):=by
    unfold iu;rw[List.take_succ_eq_append_getElem (by omega),List.flatMap_append,hu];simp
   rw[e,Ao,hd];rfl
  rw[<-si]at JZ hgo⊢;have kss:∀q,q=cq->Lx Wb sB cq nv q:=fun q h=>.inr (.inl h);have kz:∀(B:Hp) q,q<B.size->B.size<=A2.size->Lx Wb sB cq GU q->Lx Wb sB cq nv q:=fun B q hq hB' h=>by
   rcases h with h|h|h|h
   ·exact .inl h
   ·exact .inr (.inl h)
   ·exact .inr (.inr (.inl h))
   ·rcases no' q h with h'|h'
    ·exact .inr (.inr (.inr h'))
    ·omega
  have s2:=K2.size;have KZA:af (Lx Wb sB cq nv) A Z:=(KX.trans (KS.mono fun q _ h=>kss q h)).trans' KZ fun q hq h=>kz A q hq (by omega) h;have aeT:af (Lx Wb sB cq nv) A2 Z:=(Jk.trans (KS.mono fun q _ h=>kss q h)).trans' KZ fun q hq h=>kz A2 q hq (Nat.le_refl _) h;rw[ae]
  cases hb:(jo stop seen (iu p (m+1) kk s ((aW (eV p kk)).take (i+1)))).2 with
  |true=>
   have hall:jo stop seen (iu p (m+1) kk s (aW (eV p kk)))=jo stop seen (iu p (m+1) kk s ((aW (eV p kk)).take (i+1))):=by
    have e:iu p (m+1) kk s (aW (eV p kk))=iu p (m+1) kk s ((aW (eV p kk)).take (i+1))++iu p (m+1) kk s ((aW (eV p kk)).drop (i+1)):=by
     unfold iu;rw[<-List.flatMap_append,List.take_append_drop]
    rw[e,Ao,hb,if_pos rfl]
   rw[hall]at hR;simp-implicitDefEqProofs only[go_sem,↓reduceIte,Za,Zb,Zc,reduceCtorEq,Zf,Zg,Zh,Zi,Zd,Ze];exact hR _ _ (by simp-implicitDefEqProofs only[go_sem,↓reduceIte,Za,Zb,Zc,reduceCtorEq,ae,Zf,Zg,Zh,Zi,Zd,Ze,hb]) JZ KZA (fun h=>by rw[hb]at h;cases h)
  |false=>
   obtain⟨nG,N',SZ,m1,m2,on'⟩:=hgo hb;have sY:=KS.size;have sX:=Jk.size;have CZ:=CY.ai KZ fun q hq h=>by
    obtain⟨h1,h2,h3,h4⟩:=dC q hq;rcases h with h|h|h|h
    ·exact h1 h
    ·exact h2 h
    ·exact h4 h
    ·exact h3 h
   have LZ:=LY.ai KZ fun q hq h=>by
    obtain⟨h1,h2,h3,h4⟩:=dL q hq;rcases h with h|h|h|h
    ·exact h1 h
    ·exact h2 h
    ·exact h4 h
    ·exact h3 h
   have afW:(i+1)*gN w m=i*gN w m+gN w m:=by rw[Nat.add_mul,Nat.one_mul]
   simp-implicitDefEqProofs only[go_sem,↓reduceIte,Za,Zb,Zc,reduceCtorEq,Zf,Zg,Zh,Zi,Zd,Ze];refine⟨nG,N',(u:Int),SZ,by omega,by omega,fun q hq=>?_,hb,JZ,KZA,aeT,by rw[<-ev2];exact CZ,by rw[<-ev1];exact LZ⟩;rcases on' q hq with h|h
   ·exact no' q h
   ·exact .inr (by omega)
 ·rintro g X gi ⟨GU,Ni,x,SX,n1,n2,no',hd,hJX,KX,Jk,CX,LX⟩;have MB:(aW (eV p kk)).take n=aW (eV p kk):=List.take_of_length_le (by omega);rw[MB]at hd hJX;obtain⟨lkx,BX⟩:=SX.blk;have cx5:cell X ⟨sB,5,none⟩=some (.slice (some ⟨cq,0,none⟩) (s.set kk x).length gH):=by rw[BX.cell];rfl
  have Xm:=SX.set (k:=kk) (by simpa using hkl) 0;have pW:(s.set kk x).set kk 0=s:=by
   have h:=(cM hf).2.1;rw[List.getD_eq_getElem?_getD,List.getElem?_eq_getElem hkl,Option.getD_some]at h;rw[DZ,<-h];exact List.set_getElem_self hkl
  rw[pW]at Xm;have KS:af (fun q=>q=cq) X (az X ⟨cq,kk,none⟩ (.int .i64 0)):=(af.refl _ _).az _ (.inl rfl);have tS:(cell X ⟨cq,kk,none⟩).isSome=true/\rO X ⟨cq,kk,none⟩=false:=by
   rcases SX.st with⟨e,_⟩|⟨b,c',L,e,h1,h2,hB',h3⟩
   ·cases e
   ·simp only[Value.slice.injEq,Option.some.injEq,Addr.mk.injEq,and_true]at e;obtain⟨rfl,e2,rfl⟩:=e;rw[aA,List.length_set]at h1;exact hB'.bu (o:=kk) (by omega)
  have hkb:(0:Int)<=(kk:Int)/\(kk:Int)<((s.set kk x).length:Int):=by rw[List.length_set];omega
  simp-implicitDefEqProofs only[go_sem,↓reduceIte,Za,Zb,Zc,reduceCtorEq,Zf,Zg,Zh,Zi,Zd,Ze,h0,h5,cx5,ak,hkb,tS];rw[ae];simp-implicitDefEqProofs only[go_sem,↓reduceIte,Za,Zb,Zc,reduceCtorEq,Zf,Zg,Zh,Zi,Zd,Ze];have s2:=K2.size;exact hR _ _ (by simp-implicitDefEqProofs only[go_sem,↓reduceIte,Za,Zb,Zc,reduceCtorEq,ae,Zf,Zg,Zh,Zi,Zd,Ze,hd]) (hev.ai _ _ _ _ (Ap hst hd) hJX KS fun q hq e=>by rw[e]at hq;exact S.wb.2 hq) (KX.trans (KS.mono fun q _ h=>.inr (.inl h))) fun _=>⟨GU,Ni,Xm,n1,n2,fun q hq=>(no' q hq).imp id fun h=>by omega⟩
end Go.Mg
namespace Go.Mg
open Go Go.RowKit
variable {H0:Hp} {Wb:Nat->Prop} {sB cq gH:Nat} {el di sa mo fv ev:Value}
variable {P:Program} {ι:aG} {p:pZ} {fx s:List Int} {vs:List Value} {ms:List MV} {w N:Nat} {stop:List (List Int)->Bool} {J:List (List Int)->Hp->Prop} {nv:Value}
theorem ZT (c:PQ P ι) {m kk node:Nat} (hev:Jv P Wb ev stop J)
  (ih:vy P (ι.f 367) H0 Wb sB cq gH el di sa mo fv ev p w stop J m) (PR:DW H0 p fx el di sa mo fv vs ms) (hT:bg ι H0) (hG:ff p) (hw:∀k,(aW (eV p k)).length<=w) (hw1:w<=256)
  {f:Fr} {A:Hp} {seen:List (List Int)} {Qb:Ex->Fr->Hp->Prop}
  (h0:f 0=.pointer (some ⟨sB,0,none⟩)) (h1:f 1=.int .i64 (node:Int)) (h5:f 5=.int .i64 (kk:Int))
  (S:pw H0 Wb sB cq gH el di sa mo fv ev A s nv N)
  (hU:xe p.el.length s) (hz:ko s=m+1) (hf:s.findIdx? (fun u=>decide (u=0))=some kk) (hnode:node<N) (hB:N+gN w (m+1)<=2199023255552) (hst:stop seen=false) (hJ:J seen A)
  (hR:∀f' A',f' 4=.bool (jo stop seen (iu p (m+1) kk s (aW (eV p kk)))).2->J (jo stop seen (iu p (m+1) kk s (aW (eV p kk)))).1 A'->af (Lx Wb sB cq nv) A A'→
   ((jo stop seen (iu p (m+1) kk s (aW (eV p kk)))).2=false->∃nG N',pw H0 Wb sB cq gH el di sa mo fv ev A' s nG N'/\N<=N'/\N'<=N+gN w (m+1)/\∀q,ax nG q->ax nv q\/A.size<=q)->Qb .r f' A'):vc P (PN ι) Qb f A:=by
 unfold PN kA kB kC kD ke kH kI kN kU kY kZ;obtain⟨n,hn⟩:∃n,n=(aW (eV p kk)).length:=⟨_,rfl⟩
 have hnw:n<=w:=by rw[hn];exact hw kk
 have hmul:n*gN w m<=w*gN w m:=Nat.mul_le_mul_right _ hnw;have hgs:gN w (m+1)=w+w*gN w m:=by rw[gN,Nat.mul_add,Nat.mul_one]
 have hkl:=(cM hf).1;obtain⟨lk,B⟩:=S.blk;have c0:cell A ⟨sB,0,none⟩=some el:=by rw[B.cell];rfl
 have PRA:=PR.aj S.bj;have hvl:=PR.el;have hul:=hU.1;have hgn:=hG.n;obtain⟨sb,so,sc,e,hld⟩:=PRA.e.ld1 (i:=kk) (by omega);have hS:=PRA.es kk (by omega);generalize vs.getD kk undef=wv at*;simp only[go_sem,Za,Zb,h0,h5,c0,e,ak,hvl,hld,aC];refine⟨by omega,?_⟩;refine(c.len _ _ A hS).mono ?_;rintro r A1 ⟨rfl,K1⟩;have S1:=S.aj K1;have lt:=S.lt;have hno:=S.no;have s1:=K1.size;rw[ae,<-hn];simp only[go_sem,Za,Zb];have wbo:=S.wbo;have hW0:∀q,Wb q->¬(q=sB\/q=cq\/ax nv q):=fun q hq h=>by
  rcases h with h|h|h
  ·rw[h]at hq;exact S.wb.1 hq
  ·rw[h]at hq;exact S.wb.2 hq
  ·exact(hno q h).2.2.2 hq
 refine aD n [61,6,60] rfl rfl (by omega) (by rfl) (by rfl) (fun i g X=>∃GU cv,g 6=cv/\pw H0 Wb sB cq gH el di sa mo fv ev X s GU (N+i)/\bq X cv (iL (Ly N i))/\(∀q,ax cv q->A1.size<=q)/\(∀q,ax GU q->ax nv q\/A1.size<=q)/\(∀q,ax cv q->¬ax GU q)/\af (fun q=>q=sB\/q=cq\/ax nv q) A1 X) ?_ ?_ ?_
 ·exact⟨nv,_,rfl,S1,bq.nil _,fun q hq=>hq.elim,fun q hq=>.inl hq,fun q hq=>hq.elim,af.refl _ _⟩
 ·rintro i g X hi gi gn ⟨GU,cv,g6,SX,CX,oc,on,dj,KX⟩;simp only[go_sem,Za,Zb,ae]at gi gn g6;have sX:=KX.size;have bs:=S.bs;have bt:=S.bt;refine ZP (cv:=cv) (by simp only[go_sem,Za,Zb,ae,h0]) (by simp only[go_sem,Za,Zb,ae,g6]) SX CX (by rw[tB];omega) (by omega) (fun q hq=>by have:=oc q hq;exact⟨by omega,by omega,by omega,dj q hq⟩) fun f' A' nG Aq xF f6 S' C' oc' on' dj' K'=>?_;simp only[go_sem,Za,Zb];refine⟨nG,Aq,f6,S',by rw[PO];exact C',fun q hq=>?_,fun q hq=>?_,dj',KX.trans' K' fun q hq h=>?_⟩
  ·rcases oc' q hq with h|h
   ·exact oc q h
   ·omega
  ·rcases on' q hq with h|h
   ·exact on q h
   ·exact .inr (by omega)
  ·rcases h with h|h|h
   ·exact .inl h
   ·rcases on q h with h'|h'
    ·exact .inr (.inr h')
    ·omega
   ·have:=oc q h;omega
 ·rintro g X gi ⟨GU,cv,g6,SX,CX,oc,on,dj,KX⟩;simp only[go_sem,Za,Zb,ae]at g6;have sX:=KX.size;have bs:=S.bs;have bt:=S.bt;have KAX:af (fun q=>q=sB\/q=cq\/ax nv q) A X:=K1.any.trans KX;have JX:=hev.ai _ _ _ _ hst hJ KAX hW0;simp only[go_sem,Za,Zb];refine ZR c hev ih PR hT hG (node:=node) (kk:=kk) (N:=N) (n:=n) (cv:=cv) (by simp only[go_sem,Za,Zb,ae,h0]) (by simp only[go_sem,Za,Zb,ae,h1]) (by simp only[go_sem,Za,Zb,ae,h5]) (by simp only[go_sem,Za,Zb,ae,g6]) SX CX (fun q hq=>by have:=oc q hq;exact⟨by omega,by omega,by omega,dj q hq,fun h=>by have:=(wbo q h).2;omega⟩) hU hz hf hn hnode (by omega) hst JX fun f' A' f4 JA KA hgo=>?_;refine hR f' A' f4 JA ((KAX.mono fun q _ h=>?_).trans' KA fun q hq h=>?_) fun hb=>?_
  ·rcases h with h|h|h
   ·exact .inl h
   ·exact .inr (.inl h)
   ·exact .inr (.inr (.inr h))
  ·rcases h with h|h|h|h
   ·exact .inl h
   ·exact .inr (.inl h)
   ·exact .inr (.inr (.inl h))
   ·rcases on q h with h'|h'
    ·exact .inr (.inr (.inr h'))
    ·omega
  ·obtain⟨nG,N',S',m1,m2,on'⟩:=hgo hb;refine⟨nG,N',S',by omega,by omega,fun q hq=>?_⟩;rcases on' q hq with h|h
   ·rcases on q h with h'|h'
    ·exact .inl h'
    ·exact .inr (by omega)
   ·exact .inr (by omega)
theorem pw.look {H:Hp} (h:pw H0 Wb sB cq gH el di sa mo fv ev H s nv N) (x:Int):pw H0 Wb sB cq gH el di sa mo fv ev (az H ⟨sB,7,none⟩ (.int .i64 x)) s nv N:=by
 obtain⟨lk,hb⟩:=h.blk;obtain⟨nl,o,hn⟩:=h.nd;have K:af (fun q=>q=sB) H (az H ⟨sB,7,none⟩ (.int .i64 x)):=(af.refl _ _).az _ (.inl rfl);exact⟨h.bj.trans' K fun q hq e=>by have:=h.bs;omega,h.bs,h.bt,h.ne,h.wb,h.wbo,⟨x,hb.az 7 (.int .i64 x)⟩,h.st.ai K fun q hq e=>by cases hq;exact h.ne e.symm,⟨nl,o.ai K fun q hq e=>(h.no q hq).2.1 e,hn⟩,h.no⟩
theorem PS {k:FuncId} (hk:al P k (tx ι) tA 2) (hself:ι.f 367=k) (c:PQ P ι) (hev:Jv P Wb ev stop J)
  (PR:DW H0 p fx el di sa mo fv vs ms) (hT:bg ι H0) (hG:ff p) (hF:xe p.el.length fx) (hw:∀k,(aW (eV p k)).length<=w) (hw1:w<=256):∀m,vy P k H0 Wb sB cq gH el di sa mo fv ev p w stop J m:=by
 have main:∀m,(∀m',m'+1=m->vy P k H0 Wb sB cq gH el di sa mo fv ev p w stop J m')->vy P k H0 Wb sB cq gH el di sa mo fv ev p w stop J m:=by
  intro m ih s nv N node seen H hz hU S hnode hB hst hJ;refine ah hk (args:=[_,_]) (by simp) ?_;unfold tx tA kA kB kC kD kI kN kU kV kY kZ;have hul:=hU.1;have hgn:=hG.n;obtain⟨lk,B⟩:=S.blk;have c7:cell H ⟨sB,7,none⟩=some (.int .i64 lk):=by rw[B.cell];rfl
  have t7:=B.bu (o:=7) (by simp);have S1:=S.look (IntKind.i64.wrap (lk+1));have K1:af (fun q=>q=sB) H (az H ⟨sB,7,none⟩ (.int .i64 (IntKind.i64.wrap (lk+1)))):=(af.refl _ _).az _ (.inl rfl);have J1:J seen (az H ⟨sB,7,none⟩ (.int .i64 (IntKind.i64.wrap (lk+1)))):=hev.ai _ _ _ _ hst hJ K1 fun q hq e=>by rw[e]at hq;exact S.wb.1 hq
  simp-implicitDefEqProofs only[go_sem,↓reduceIte,Za,Zb,Zc,reduceCtorEq,Zf,Zg,Zh,Zi,Zd,Ze,c7,t7];rw[ae];generalize az H ⟨sB,7,none⟩ (.int .i64 (IntKind.i64.wrap (lk+1)))=H1 at S1 K1 J1⊢;obtain⟨lk1,B1⟩:=S1.blk;simp-implicitDefEqProofs only[go_sem,↓reduceIte,Za,Zb,Zc,reduceCtorEq,Zf,Zg,Zh,Zi,Zd,Ze];refine(c.full sB _ lk1 H1 B1 rfl).mono ?_;rintro r H2 ⟨rfl,rfl⟩;rw[ae];have c5:cell H2 ⟨sB,5,none⟩=some (.slice (some ⟨cq,0,none⟩) s.length gH):=by rw[B1.cell];rfl
  have l5:aR H2 ⟨sB,0,none⟩ 5=some #[el,di,sa,mo,fv]:=by
   have:=B1.aR (o:=0) (n:=5) (by simp);simpa using this
  have hv:jW H2 (.agg #[el,di,sa,mo,fv]) p fx:=⟨_,_,_,_,_,_,_,rfl,PR.aj S1.bj⟩
  simp-implicitDefEqProofs only[go_sem,↓reduceIte,Za,Zb,Zc,reduceCtorEq,Zf,Zg,Zh,Zi,Zd,Ze,c5,aC,l5];refine(c.brk p fx s _ _ H2 (hT.ai S1.bj) hv hG hF hU S1.st.sl).mono ?_;rintro r H3 ⟨rfl,K3⟩;have S3:=S1.aj K3;have J3:=hev.ai _ _ _ _ hst J1 K3 (by simp);have EE:af (Lx Wb sB cq nv) H H3:=(K1.mono fun q _ h=>.inl h).trans K3.any;obtain⟨lk3,B3⟩:=S3.blk;have c53:cell H3 ⟨sB,5,none⟩=some (.slice (some ⟨cq,0,none⟩) s.length gH):=by rw[B3.cell];rfl
  have c63:cell H3 ⟨sB,6,none⟩=some nv:=by rw[B3.cell];rfl
  have c93:cell H3 ⟨sB,9,none⟩=some ev:=by rw[B3.cell];rfl
  have sH1:=K1.size;have sH3:=K3.size;rw[ae]
  by_cases ZU:iR p s=true
  ·have hL:kn p (m+1) s=[]:=by rw[kn,if_pos ZU]
   rw[hL];obtain⟨bn,cn,hnv,hok,S4,K4⟩:=S3.node hnode (2,0,(none,0,0),(none,0,0));have e1:xL (2,0,(none,0,0),(none,0,0))=[.int .u8 2,.int .i64 0,.slice none 0 0,.slice none 0 0]:=rfl;rw[e1]at S4 K4;have a1:bO #[Value.int .u8 2,.int .i64 0,.slice none 0 0,.slice none 0 0]:=bd rfl;have St:iW #[Value.int IntKind.u8 0,Value.int IntKind.i64 0,Value.slice none 0 0,Value.slice none 0 0] 0 [Value.int IntKind.u8 2]=#[Value.int .u8 2,.int .i64 0,.slice none 0 0,.slice none 0 0]:=rfl;have hnn:(0:Int)<=(node:Int)/\(node:Int)<(N:Int):=by omega
   simp-implicitDefEqProofs only[go_sem,↓reduceIte,Za,Zb,Zc,reduceCtorEq,Zf,Zg,Zh,Zi,Zd,Ze,ZU,c63,hnv,ak,hok,hnn,St];refine⟨a1,?_⟩;rw[ae];generalize aB H3 ⟨bn,node*4,none⟩ [Value.int .u8 2,.int .i64 0,.slice none 0 0,.slice none 0 0]=H4 at S4 K4⊢;simp-implicitDefEqProofs only[go_sem,↓reduceIte,Za,Zb,Zc,reduceCtorEq,Zf,Zg,Zh,Zi,Zd,Ze];rw[<-hnv];have J4:=hev.ai _ _ _ _ hst J3 K4 fun q hq h=>(S.no q h).2.2.2 hq;exact⟨rfl,J4,EE.trans (K4.mono fun q _ h=>.inr (.inr (.inr h))),fun _=>⟨nv,N,S4,Nat.le_refl _,by omega,fun q hq=>.inl hq⟩⟩
  have ZU:iR p s=false:=by simpa using ZU
  simp-implicitDefEqProofs only[go_sem,↓reduceIte,Za,Zb,Zc,reduceCtorEq,Zf,Zg,Zh,Zi,Zd,Ze,ZU,c53];refine(c.idx s _ 0 H3 S3.st.sl (by omega)).mono ?_;rintro r H4 ⟨rfl,rfl⟩;rw[ae]
  cases hfi:s.findIdx? (fun u=>decide (u=0))with
  |none=>
   have hL:kn p (m+1) s=[s]:=by rw[kn,if_neg (by rw[ZU];simp),hfi]
   rw[hL];have hi0:GS 0 s=-1:=by unfold GS;rw[hfi]
   simp-implicitDefEqProofs only[go_sem,↓reduceIte,Za,Zb,Zc,reduceCtorEq,Zf,Zg,Zh,Zi,Zd,Ze,hi0];obtain⟨g,ca,jN,Ez,hgc⟩:=hev.call;have ws:Wb sB=False:=eq_false S.wb.1;have wt:Wb cq=False:=eq_false S.wb.2;unfold Xp kW kX;refine bo Wb ?_;simp-implicitDefEqProofs only[go_sem,↓reduceIte,Za,Zb,Zc,reduceCtorEq,Zf,Zg,Zh,Zi,Zd,Ze,c53,c93,ws,wt];refine(c.cln s _ H4 S3.st.sl (by omega)).mono ?_;rintro v H5 ⟨O5,o5,K5⟩;have J5:=hev.ai _ _ _ _ hst J3 K5 (by simp);have S5:=S3.aj K5;rw[aJ];refine⟨K5.any,?_⟩;simp-implicitDefEqProofs only[go_sem,↓reduceIte,Za,Zb,Zc,reduceCtorEq,Zf,Zg,Zh,Zi,Zd,Ze,jN];refine⟨Ez,(hgc seen s v H5 hst J5 O5.sl fun q hq hWq=>?_).mono ?_⟩
   ·have:=o5 q (O5.aT hq);have:=(S.wbo q hWq).2;have:=S3.lt.1;omega
   rintro r H6 ⟨rfl,J6,K6⟩;have hdl:jo stop seen [s]=(seen++[s],stop (seen++[s])):=by
    rw[jo]
    cases hs:stop (seen++[s])with
    |true=>rfl
    |false=>rfl
   rw[aJ];refine⟨K6,?_⟩;simp-implicitDefEqProofs only[go_sem,↓reduceIte,Za,Zb,Zc,reduceCtorEq,Zf,Zg,Zh,Zi,Zd,Ze];rw[hdl,<-jN];exact⟨rfl,J6,(EE.trans K5.any).trans (K6.mono fun q _ h=>.inr (.inr (.inl h))),fun _=>⟨nv,N,S5.ai K6 (fun q hq=>(S.wbo q hq).1) S.wb.1 S.wb.2 (fun q hq=>(S.no q hq).2.2.2),Nat.le_refl _,by omega,fun q hq=>.inl hq⟩⟩
  |some kk=>
   have hi0:GS 0 s=(kk:Int):=by unfold GS;rw[hfi]
   have d0:decide ((kk:Int)<0)=false:=decide_eq_false (by omega);simp-implicitDefEqProofs only[go_sem,↓reduceIte,Za,Zb,Zc,reduceCtorEq,Zf,Zg,Zh,Zi,Zd,Ze,hi0,d0];have hzp:0<ko s:=by
    unfold ko;obtain⟨k1,k2,_⟩:=cM hfi;rw[List.getD_eq_getElem?_getD,List.getElem?_eq_getElem k1,Option.getD_some]at k2;exact List.countP_pos_iff.2 ⟨s[kk],List.getElem_mem _,by simp[k2]⟩
   obtain⟨m',rfl⟩:∃m',m=m'+1:=⟨m -1,by omega⟩
   have hL:kn p (m'+1+1) s=iu p (m'+1) kk s (aW (eV p kk)):=by
    conv=>lhs;rw[kn]
    rw[if_neg (by rw[ZU];simp),hfi];rfl
   have ihm:=ih m' rfl;rw[<-hself]at ihm;rw[hL];refine ZT c hev ihm PR hT hG hw hw1 (node:=node) (kk:=kk) (by rfl) (by rfl) (by rfl) S3 hU hz hfi hnode hB hst J3 fun f' A' f4 JA KA hgo=>?_;simp-implicitDefEqProofs only[go_sem,↓reduceIte,Za,Zb,Zc,reduceCtorEq,ae,Zf,Zg,Zh,Zi,Zd,Ze,f4];exact⟨JA,EE.trans KA,fun hb=>by
    obtain⟨nG,N',S',m1,m2,on⟩:=hgo hb;exact⟨nG,N',S',m1,m2,fun q hq=>(on q hq).imp id fun h=>by omega⟩⟩
 intro m
 induction m with
 |zero=>exact main 0 fun m' h=>by omega
 |succ m ih=>
  refine main (m+1) fun m' h=>?_;have:m'=m:=by omega
  subst this;exact ih
end Go.Mg
