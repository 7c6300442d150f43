/- Lemmas of ours. No conditions. -/
import Derived.Test.YteeemadonfcliaaGreatDoorMgG3
open Nat renaming reduceEqDiff→Za,reduceAdd→Zb,reduceMul→Zc,reduceLeDiff→Zd,reduceLT→Ze
open Int renaming reduceBEq→Zf,reduceBNe→Zg,reduceLE→Zh,reduceLT→Zi
set_option linter.all false
set_option maxRecDepth 100000
namespace Go.Mg
open Go Go.RowKit
def Gp (ι:aJ):S:=
 kY [kC 4 (.int .i64 0)] (.seq (kY [kA 6 0,kV 7 (.m (.lenl (.t 6))),kC 8 (.int .i64 0)] (.blk 0 (.loop (kY [kH 9 8 7] (.seq (.ite (.v 9) .skip (.exit 0)) (.seq (.blk 1 (kY [kA 10 8,kB 5 10] (kY [kA 11 1,kA 12 0,kA 13 5,kI 14 1 12 13,kD 15 14,kV 16 (.cm .eql .i64 (.t 11) (.t 15))] (.ite (.v 16) (kY [kA 17 5,kB 4 17] .ret) .skip)))) (.reg [ke 18 8,kB 8 18]))))))) (kY [kC 4 (.int .i64 (-1))] .ret))
def Gq:List RV:=[.t 4]
def uD (ι:aJ):S:=
 kY [kC 2 (.bool false)] (kY [kA 3 0,kU 4 (.nil (.t 3)),kU 5 (.fa 8 (.t 4)),kD 6 5,kU 7 (.cm .gtr .i64 (.t 6) (.c (.int .i64 0))),kF 8 7,kS 9 8 true 0,kT 10 8 true (.nil (.t 9)),kT 11 8 true (.fa 7 (.t 10)),kT 12 8 true (.ld (.t 11)),kS 13 8 true 0,kT 14 8 true (.nil (.t 13)),kT 15 8 true (.fa 8 (.t 14)),kT 16 8 true (.ld (.t 15)),kT 17 8 true (.cm .gtr .i64 (.t 12) (.t 16)),kJ 18 8 17,kB 2 18] .ret)
def uE:List RV:=[.t 2]
def gJ (stop:List (List Int)->Bool):List (List Int)->List (List Int)->List (List Int)×Bool
 |seen,[]=>(seen,false)
 |seen,t::L=>if stop (seen++[t])=true then(seen++[t],true)else gJ stop (seen++[t]) L
theorem uF (stop:List (List Int)->Bool):∀(A B seen:List (List Int)),gJ stop seen (A++B)=if(gJ stop seen A).2=true then gJ stop seen A else gJ stop (gJ stop seen A).1 B
 |[],B,seen=>by simp[gJ]
 |t::A,B,seen=>by
  by_cases h:stop (seen++[t])=true
  ·have e1:gJ stop seen (t::A++B)=(seen++[t],true):=by rw[List.cons_append,gJ,if_pos h]
   have e2:gJ stop seen (t::A)=(seen++[t],true):=by rw[gJ,if_pos h]
   rw[e1,e2];rfl
  ·have e1:gJ stop seen (t::A++B)=gJ stop (seen++[t]) (A++B):=by rw[List.cons_append,gJ,if_neg h]
   have e2:gJ stop seen (t::A)=gJ stop (seen++[t]) A:=by rw[gJ,if_neg h]
   rw[e1,e2];exact uF stop A B _
theorem uG {stop:List (List Int)->Bool}:∀{L seen:List (List Int)},stop seen=false->(gJ stop seen L).2=false->stop (gJ stop seen L).1=false
 |[],seen,h,_=>h
 |t::L,seen,h,h2=>by
  rw[gJ]at h2⊢
  by_cases e:stop (seen++[t])=true
  ·rw[if_pos e]at h2;cases h2
  ·rw[if_neg e]at h2⊢;exact uG (by simpa using e) h2
def gN (w:Nat):Nat->Nat
 |0=>0
 |m+1=>w*(1+gN w m)
def zx (x:Int) (l:List Int):Int:=match l.findIdx? (fun u=>decide (u=x))with|none=>-1|some i=>(i:Int)
def rM (P:Program) (k:FuncId):Prop:=∀(l:List Int) (v:Value) (x:Int) (H:Hp),aG H v (iL l)->l.length<=1000000->an P k #[v,.int .i64 x] H fun r H'=>r=.int .i64 (zx x l)/\H'=H
variable {P:Program} {ι:aJ} {k:FuncId}
theorem Pp (hk:aq P k (Gp ι) Gq 2):rM P k:=by
 intro l v x H hv JQ;refine ah hk (args:=[_,_]) (by simp) ?_;unfold Gp Gq kA kB kC kD ke kH kI kV kY;simp-implicitDefEqProofs only[go_sem,zS,↓reduceIte,Za,Zb,Zc,reduceCtorEq,ae,hv.ax,hv.len,ak];refine aL [9,5,16,4,8] rfl (fun n f H'=>∃i:Nat,i<=l.length/\n=l.length -i/\f 8=.int .i64 i/\(∀a<i,∀h:a<l.length,l[a]≠x)/\H'=H) l.length
  ⟨0,by omega,by omega,by simp-implicitDefEqProofs only[go_sem,zS,↓reduceIte,Za,Zb,Zc,reduceCtorEq,ae];rfl,fun a ha=>by omega,rfl⟩ ?_
 rintro n f H1 ⟨i,hi,rfl,hf,hx,rfl⟩;simp-implicitDefEqProofs only[go_sem,zS,↓reduceIte,Za,Zb,Zc,reduceCtorEq,ae]at hf;simp-implicitDefEqProofs only[go_sem,zS,↓reduceIte,Za,Zb,Zc,reduceCtorEq,hf];refine aC (fun hlt=>?_) (fun gx=>?_)
 ·have hlt:i<l.length:=by omega
  obtain⟨b,o,c,rfl,hlm,hc⟩:=hv.cells (by intro e;have h:=congrArg List.length e;rw[ak,List.length_nil]at h;omega);rw[ak]at hc hlm;have hci:=hc i hlt;rw[bW _ _ hlt]at hci;have Xg:l.getD i 0=l[i]:=by rw[List.getD_eq_getElem?_getD,List.getElem?_eq_getElem hlt];rfl
  rw[Xg]at hci
  by_cases h:x=l[i]
  ·have e:(x==l[i])=true:=by simpa using h
   have hr:l.findIdx? (fun u=>decide (u=x))=some i:=List.findIdx?_eq_some_iff_getElem.2 ⟨hlt,by simp[h],fun j hj=>by simpa using hx j hj (by omega)⟩;simp-implicitDefEqProofs only[go_sem,zS,↓reduceIte,Za,Zb,Zc,reduceCtorEq,ae,hf,ak,ai,Nat.mul_one,hci,e,zx,hr];omega
  ·have e:(x==l[i])=false:=by simpa using h
   simp-implicitDefEqProofs (disch:=omega)only[go_sem,zS,↓reduceIte,Za,Zb,Zc,reduceCtorEq,ae,hf,ak,ai,Nat.mul_one,hci,e,IntWalk.i64_in];refine⟨by omega,l.length -(i+1),by omega,i+1,by omega,rfl,by simp,fun a ha R2=>?_⟩
   by_cases e2:a=i
   ·subst e2;exact fun h'=>h h'.symm
   ·exact hx a (by omega) R2
 ·have hr:l.findIdx? (fun u=>decide (u=x))=none:=List.findIdx?_eq_none_iff.2 fun y hy=>by
   obtain⟨a,ha,rfl⟩:=List.getElem_of_mem hy;simpa using hx a (by omega) ha
  simp-implicitDefEqProofs only[go_sem,zS,↓reduceIte,Za,Zb,Zc,reduceCtorEq,ae,zx,hr]
abbrev S3:=Option Addr×Nat×Nat
def mJ (t:S3):Value:=.slice t.1 t.2.1 t.2.2
theorem fA {v:Value} (h:ax v):∃t,v=mJ t:=by
 cases v<;>first|exact⟨(_,_,_),rfl⟩|exact h.elim
abbrev vv:=Int×Int×S3×S3
def jC (x:vv):List Value:=[.int .u8 x.1,.int .i64 x.2.1,mJ x.2.2.1,mJ x.2.2.2]
theorem uH (x:vv):(jC x).length=4:=rfl
theorem nX (x:vv):∀v∈jC x,v.oneCell'=true:=by
 intro v hv;simp[jC,mJ]at hv;rcases hv with rfl|rfl|rfl|rfl<;>rfl
theorem Pq {α:Type} {enc:α->List Value} {k:Nat} (hk:∀x,(enc x).length=k) {H:Hp} {b c:Nat} {L:List Value} {l:List α} (hB:Bl H b L) (h1:l.length<=c) (h2:c*k<=L.length) (h3:L.take (l.length*k)=l.flatMap enc) {i:Nat} (hi:i<l.length) (x:α):
  dG enc k (Mg.aA H ⟨b,i*k,none⟩ (enc x)) (.slice (some ⟨b,0,none⟩) l.length c) (l.set i x):=by
 have Ra:=hB.aA (i*k) (enc x);have hik:(i+1)*k<=l.length*k:=Nat.mul_le_mul_right k hi;have hck:l.length*k<=c*k:=Nat.mul_le_mul_right k h1;rw[Nat.add_mul,Nat.one_mul]at hik;refine dG.bl Ra (by simp) h1 ?_ ?_
 ·rw[gX (by rw[hk];omega)];exact h2
 ·have e1:L.take (i*k)=(l.take i).flatMap enc:=by
   rw[<-sH hk l i (by omega),<-h3,List.take_take,Nat.min_eq_left (by omega)]
  have e2:(L.drop (i*k+k)).take (l.length*k -(i*k+k))=(l.drop (i+1)).flatMap enc:=by
   rw[<-Jk hk l (i+1) (by omega),<-h3,Nat.add_mul,Nat.one_mul,List.drop_take]
  unfold iE;rw[hk,e1,List.set_eq_take_append_cons_drop,if_pos hi,List.flatMap_append,List.flatMap_cons,<-e2,<-List.append_assoc];have l1:((l.take i).flatMap enc++enc x).length=i*k+k:=by
   rw[List.length_append,sG hk,hk,List.length_take,Nat.min_eq_left (by omega)]
  rw[List.take_append,l1,List.take_of_length_le (by rw[l1];exact hik)]
def rN (P:Program) (k:FuncId):Prop:=∀(b:Nat) (cs:List Value) (lk:Int) (H:Hp),Bl H b cs->cs[8]?=some (.int .i64 0)->an P k #[.pointer (some ⟨b,0,none⟩)] H fun r H'=>r=.bool false/\H'=H
theorem Gr (hk:aq P k (uD ι) uE 1):rN P k:=by
 intro b cs lk H B h8;refine ah hk (args:=[_]) (by simp) ?_;unfold uD uE kA kB kF kC kD kJ kS kT kU kY;have c8:cell H ⟨b,8,none⟩=some (.int .i64 0):=by rw[B.cell];exact h8
 have d:decide ((0:Int)>0)=false:=rfl;simp-implicitDefEqProofs only[go_sem,zS,↓reduceIte,Za,Zb,Zc,reduceCtorEq,ae,zU,zV,Zf,Zg,Zh,Zi,Zd,Ze,zF,c8,d]
end Go.Mg
namespace Go.Mg
open Go Go.RowKit
def Gs (ι:aJ):S:=
 (kY [kA 62 6,kA 63 0,kU 64 (.nil (.t 63)),kU 65 (.fa 6 (.t 64)),kD 66 65,kL 67 66,kc 68 (.cj (ι.t 26) 1 1 [.t 67]),kc 69 (.app false (ι.t 26) 1 8 #[.int .i64 0] (.t 62) (.t 68)),kB 6 69] (.reg [kA 70 0,kA 71 0,kU 72 (.nil (.t 71)),kU 73 (.fa 6 (.t 72)),kD 74 73,kU 75 (.m (.jA #[.int .u8 0,.int .i64 0,kZ,kZ] [])),kc 76 (.cj (ι.t 368) 4 1 [.t 75]),kc 77 (.app false (ι.t 368) 4 64 #[.int .u8 0,.int .i64 0,kZ,kZ] (.t 74) (.t 76)),kU 78 (.nil (.t 70)),kU 79 (.fa 6 (.t 78)),kf (.st (.t 79) (.t 77))]))
def MQ (ι:aJ):S:=
 (kY [kA 102 100,kK 103 1 98 100,kD 104 103,kB 7 102,kB 8 104] (kY [kA 105 0,kU 106 (.nil (.t 105)),kU 107 (.fa 5 (.t 106)),kD 108 107,kA 109 5,kA 110 8,kI 111 1 108 109,kf (.st (.t 111) (.t 110))] (kY [kA 112 0,kA 113 6,kA 114 7,kI 115 1 113 114,kD 116 115,kd 117 (kg (ι.f 367) [.t 112,.t 116])] (.ite (.v 117) (kY [kC 4 (.bool true)] .ret) .skip))))
def MR (ι:aJ):S:=
 (.dr (kW 41 (.mv (.v 0)) (kW 42 (.nil (.t 41)) (kW 43 (.fa 9 (.t 42)) (kW 44 (.ld (.t 43)) (kW 45 (.mv (.v 0)) (kW 46 (.nil (.t 45)) (kW 47 (.fa 5 (.t 46)) (kW 48 (.ld (.t 47)) (ka 49 (kg (ι.f 159) [.t 48]) (ka 50 (.callv (.t 44) [.t 49]) (kX 4 (.mv (.t 50)) .done) .wnil) .wnil))))))))))
def Gt (ι:aJ):S:=
 (kY [kA 81 0,kU 82 (.nil (.t 81)),kU 83 (.fa 6 (.t 82)),kD 84 83,kA 85 1,kA 86 5,kA 87 6,kU 88 (.m (.jA #[.int .u8 0,.int .i64 0,kZ,kZ] [(0,(1,.c (.int .u8 1))),(1,(1,.t 86)),(2,(1,.t 87))])),kI 89 4 84 85,kf (.stn 4 (.t 89) (.t 88))] (.seq (kY [kA 90 0,kU 91 (.nil (.t 90)),kU 92 (.fa 0 (.t 91)),kU 93 (.fa 0 (.t 92)),kD 94 93,kA 95 5,kI 96 1 94 95,kN 97 1 96,kd 98 (kg (ι.f 139) [.t 97]),kO 99 98,kC 100 (.int .i64 0)] (.blk 2 (.loop (kY [kH 101 100 99] (.seq (.ite (.v 101) .skip (.exit 2)) (.seq (.blk 3 (MQ ι)) (.reg [ke 118 100,kB 100 118]))))))) (kY [kA 119 0,kU 120 (.nil (.t 119)),kU 121 (.fa 5 (.t 120)),kD 122 121,kA 123 5,kI 124 1 122 123,kf (.st (.t 124) (.c (.int .i64 0)))] (kY [kC 4 (.bool false)] .ret))))
def Gu (ι:aJ):S:=
 (kY [kC 6 (kZ)] (.seq (kY [kA 51 0,kU 52 (.nil (.t 51)),kU 53 (.fa 0 (.t 52)),kU 54 (.fa 0 (.t 53)),kD 55 54,kA 56 5,kI 57 1 55 56,kN 58 1 57,kd 59 (kg (ι.f 135) [.t 58]),kC 60 (.int .i64 0)] (.blk 0 (.loop (kY [kH 61 60 59] (.seq (.ite (.v 61) .skip (.exit 0)) (.seq (.blk 1 (Gs ι)) (.reg [ke 80 60,kB 60 80]))))))) (Gt ι)))
def nY (ι:aJ):S:=
 kY [kC 4 (.bool false)] (kY [kA 9 0,kU 10 (.nil (.t 9)),kU 11 (.fa 7 (.t 10)),kD 12 11,kU 13 (.ar .add .i64 (.t 12) (.c (.int .i64 1))),kU 14 (.nil (.t 9)),kU 15 (.fa 7 (.t 14)),kf (.st (.t 15) (.t 13))] (.seq (kY [kA 16 0,kd 17 (kg (ι.f 366) [.t 16])] (.ite (.v 17) (kY [kC 4 (.bool true)] .ret) .skip)) (.seq (kY [kA 18 0,kU 19 (.nil (.t 18)),kU 20 (.fa 0 (.t 19)),kN 21 5 20,kA 22 0,kU 23 (.nil (.t 22)),kU 24 (.fa 5 (.t 23)),kD 25 24,kd 26 (kg (ι.f 364) [.t 21,.t 25])] (.ite (.v 26) (kY [kA 27 0,kU 28 (.nil (.t 27)),kU 29 (.fa 6 (.t 28)),kD 30 29,kA 31 1,kU 32 (.m (.jA #[.int .u8 0,.int .i64 0,kZ,kZ] [(0,(1,.c (.int .u8 2)))])),kI 33 4 30 31,kf (.stn 4 (.t 33) (.t 32))] (kY [kC 4 (.bool false)] .ret)) .skip)) (kY [kA 34 0,kU 35 (.nil (.t 34)),kU 36 (.fa 5 (.t 35)),kD 37 36,kc 38 (kg (ι.f 157) [.t 37,.c (.int .i64 0)]),kB 5 38] (.seq (kY [kA 39 5,kV 40 (.cm .lss .i64 (.t 39) (.c (.int .i64 0)))] (.ite (.v 40) (.seq (MR ι) .ret) .skip)) (Gu ι))))))
def nZ:List RV:=[.t 4]
structure nA (H:Hp) (D:Nat->Prop) (x:vv) (y:eC):Prop where
 kd:x.1=(y.kd:Int)
 st:x.2.1=(y.st:Int)
 ch:aG H (mJ x.2.2.1) (iN y.ch)
 cd:∀q,aU (mJ x.2.2.1) q->D q
 sv:x.2.2.2=(none,0,0)
 sp:y.sp=[]
def zy:vv:=(0,0,(none,0,0),(none,0,0))
theorem nA.zero (H:Hp) (D:Nat->Prop):nA H D zy bX:=⟨rfl,rfl,aG.nil _ _ _,fun q h=>h.elim,rfl,rfl⟩
variable {H H':Hp} {D D' W:Nat->Prop} {x:vv} {y:eC} {nl:List vv} {L:List eC} {s:List Int} {nv:Value} {N:Nat}
theorem nA.ag (h:nA H D x y) (hk:af W H H') (hd:∀q,D q->¬W q) (hD:∀q,D q->D' q):nA H' D' x y:=
 ⟨h.kd,h.st,h.ch.ag hk fun q hq=>hd q (h.cd q hq),fun q hq=>hD q (h.cd q hq),h.sv,h.sp⟩
def Gv (H:Hp) (D:Nat->Prop) (nl:List vv) (L:List eC):Prop:=nl.length=L.length/\∀i<L.length,nA H D (nl.getD i zy) (L.getD i bX)
theorem Gv.ag (h:Gv H D nl L) (hk:af W H H') (hd:∀q,D q->¬W q) (hD:∀q,D q->D' q):Gv H' D' nl L:=⟨h.1,fun i hi=>(h.2 i hi).ag hk hd hD⟩
theorem Gv.push (h:Gv H D nl L):Gv H D (nl++[zy]) (L++[bX]):=by
 refine⟨by simp[h.1],fun i hi=>?_⟩;have hl:=h.1
 by_cases e:i<L.length
 ·rw[List.getD_eq_getElem?_getD,List.getElem?_append_left (by omega),<-List.getD_eq_getElem?_getD,List.getD_eq_getElem?_getD (l:=L++[bX]),List.getElem?_append_left e,<-List.getD_eq_getElem?_getD];exact h.2 i e
 ·have:i=L.length:=by simp at hi;omega
  subst this;rw[List.getD_eq_getElem?_getD,List.getElem?_append_right (by omega),List.getD_eq_getElem?_getD (l:=L++[bX]),List.getElem?_append_right (by omega),hl];simp only[Nat.sub_self,List.getElem?_cons_zero,Option.getD_some];exact nA.zero _ _
theorem Gv.set (h:Gv H D nl L) {n:Nat} (hn:n<L.length) (hx:nA H D x y):Gv H D (nl.set n x) (L.set n y):=by
 refine⟨by simp[h.1],fun i hi=>?_⟩;have hl:=h.1;rw[de hn];have e:(nl.set n x).getD i zy=if i=n then x else nl.getD i zy:=by
  rw[List.getD_eq_getElem?_getD,List.getD_eq_getElem?_getD,List.getElem?_set]
  by_cases e:n=i
  ·subst e;rw[if_pos rfl,if_pos rfl,if_pos (by omega)];rfl
  ·rw[if_neg e,if_neg (fun h=>e h.symm)]
 rw[e]
 by_cases e:i=n
 ·rw[if_pos e,if_pos e];exact hx
 ·rw[if_neg e,if_neg e];exact h.2 i (by simpa using hi)
structure jW (H0:Hp) (Wb:Nat->Prop) (sB bG eY:Nat) (el di sa mo fv ev:Value) (H:Hp) (s:List Int) (nv:Value) (N:Nat) (L:List eC) (D:Nat->Prop):Prop where
 bM:af (fun _=>False) H0 H
 bs:H0.size<=sB
 bt:H0.size<=bG
 ne:sB≠bG
 wb:¬Wb sB/\¬Wb bG
 wbo:∀q,Wb q->H0.size<=q/\q<sB
 blk:∃lk:Int,Bl H sB [el,di,sa,mo,fv,.slice (some ⟨bG,0,none⟩) s.length eY,nv,.int .i64 lk,.int .i64 0,ev]
 st:bY H (.slice (some ⟨bG,0,none⟩) s.length eY) (iL s)
 nd:∃nl,dG jC 4 H nv nl/\nl.length=N/\Gv H D nl L
 no:∀q,az nv q->H0.size<=q/\q≠sB/\q≠bG/\¬Wb q
 dn:∀q,D q->q<H.size/\H0.size<=q/\q≠sB/\q≠bG/\¬Wb q/\¬az nv q
def Du (Wb:Nat->Prop) (sB bG:Nat) (nv:Value) (q:Nat):Prop:=q=sB\/q=bG\/Wb q\/az nv q
variable {H0:Hp} {Wb:Nat->Prop} {sB bG eY:Nat} {el di sa mo fv ev:Value}
theorem jW.ag (h:jW H0 Wb sB bG eY el di sa mo fv ev H s nv N L D) (hk:af W H H') (hw:∀q,W q->H0.size<=q) (h1:¬W sB) (h2:¬W bG) (h3:∀q,az nv q->¬W q) (h4:∀q,D q->¬W q):jW H0 Wb sB bG eY el di sa mo fv ev H' s nv N L D:=by
 obtain⟨lk,hb⟩:=h.blk;obtain⟨nl,o,hn,hr⟩:=h.nd;exact⟨h.bM.trans' hk fun q hq EM=>by have:=hw q EM;omega,h.bs,h.bt,h.ne,h.wb,h.wbo,⟨lk,hk.bl hb h1⟩,h.st.ag hk fun q hq=>by cases hq;exact h2,⟨nl,o.ag hk h3,hn,hr.ag hk h4 fun _ h=>h⟩,h.no,fun q hq=>⟨Nat.lt_of_lt_of_le (h.dn q hq).1 hk.size,(h.dn q hq).2⟩⟩
theorem jW.aj (h:jW H0 Wb sB bG eY el di sa mo fv ev H s nv N L D) (hk:af (fun _=>False) H H'):jW H0 Wb sB bG eY el di sa mo fv ev H' s nv N L D:=
 h.ag hk (by simp) (by simp) (by simp) (by simp) (by simp)
theorem jW.lt (h:jW H0 Wb sB bG eY el di sa mo fv ev H s nv N L D):sB<H.size/\bG<H.size/\∀q,az nv q->q<H.size:=by
 obtain⟨lk,hb⟩:=h.blk;obtain⟨nl,o,hn,hr⟩:=h.nd;exact⟨hb.lt,h.st.bM rfl,fun q hq=>o.bM hq⟩
theorem Pr (h:jW H0 Wb sB bG eY el di sa mo fv ev H s nv N L D):∀q,Du Wb sB bG nv q->H0.size<=q:=by
 rintro q (rfl|rfl|hq|hq)
 ·exact h.bs
 ·exact h.bt
 ·exact(h.wbo q hq).1
 ·exact(h.no q hq).1
theorem jW.set (h:jW H0 Wb sB bG eY el di sa mo fv ev H s nv N L D) {k:Nat} (hk:k<s.length) (u:Int):jW H0 Wb sB bG eY el di sa mo fv ev (al H ⟨bG,k,none⟩ (.int .i64 u)) (s.set k u) nv N L D:=by
 obtain⟨lk,hb⟩:=h.blk;obtain⟨nl,o,hn,hr⟩:=h.nd;have ne:=h.ne;have K:af (fun q=>q=bG) H (al H ⟨bG,k,none⟩ (.int .i64 u)):=(af.refl _ _).al _ (.inl rfl);refine⟨h.bM.trans' K fun q hq e=>by have:=h.bt;omega,h.bs,h.bt,h.ne,h.wb,h.wbo,⟨lk,by rw[List.length_set];exact K.bl hb ne⟩,?_,⟨nl,o.ag K fun q hq e=>(h.no q hq).2.2.1 e,hn,hr.ag K (fun q hq e=>(h.dn q hq).2.2.2.1 e) fun _ h=>h⟩,h.no,fun q hq=>⟨by rw[eZ];exact(h.dn q hq).1,(h.dn q hq).2⟩⟩;rcases h.st with⟨e,_⟩|⟨b,c,L,e,h1,h2,hB,h3⟩
 ·cases e
 ·simp only[Value.slice.injEq,Option.some.injEq,Addr.mk.injEq,and_true]at e;obtain⟨rfl,e2,rfl⟩:=e;rw[ak]at h1 h3;have:=EV hB (l:=iL s) (by rw[ak];exact h1) h2 (by rw[ak];exact h3) k (.int .i64 u) (by rw[ak];exact hk);rw[fU]at this;rw[List.length_set];rw[ak]at this;exact this
theorem Ps {P:Program} {ι:aJ} {f:Fr} {A:Hp} {cv:Value} {c0:List Int} {Qb:Ex->Fr->Hp->Prop}
  (h0:f 0=.pointer (some ⟨sB,0,none⟩)) (h6:f 6=cv) (S:jW H0 Wb sB bG eY el di sa mo fv ev A s nv N L D) (C:bY A cv (iL c0)) (hc:c0.length<=100000) (hN:N<2199023255552)
  (hcv:∀q,az cv q->H0.size<=q/\q≠sB/\q≠bG/\¬az nv q) (hcd:∀q,az cv q->¬D q)
  (hK:∀f' A' jX Gw,(∀j,j≠6->f' j=f j)->f' 6=Gw->jW H0 Wb sB bG eY el di sa mo fv ev A' s jX (N+1) (L++[bX]) D->bY A' Gw (iL (c0++[(N:Int)]))->(∀q,az Gw q->az cv q\/A.size<=q)->(∀q,az jX q->az nv q\/A.size<=q)->(∀q,az Gw q->¬az jX q)→
   af (fun q=>q=sB\/az nv q\/az cv q) A A'->Qb .n f' A'):vc P (Gs ι) Qb f A:=by
 unfold Gs kA kB kD kL kU kc kf kY kZ;obtain⟨lk,B⟩:=S.blk;obtain⟨nl,O,hn,hr⟩:=S.nd;have lt:=S.lt;have c6:cell A ⟨sB,6,none⟩=some nv:=by rw[B.cell];rfl
 have ln:aP nv=N:=by rw[O.sl.len,hn]
 have sn:=O.sl.ax;simp-implicitDefEqProofs only[go_sem,zS,↓reduceIte,Za,Zb,Zc,reduceCtorEq,zU,zV,Zf,Zg,Zh,Zi,Zd,Ze,zF,h0,h6,c6,sn,ln];refine aF fun A1 b1 e1 z1 B1 K1=>?_;have eB:Bl A1 b1 (iL [(N:Int)]):=B1;simp-implicitDefEqProofs only[go_sem,zS,↓reduceIte,Za,Zb,Zc,reduceCtorEq,zU,zV,Zf,Zg,Zh,Zi,Zd,Ze,zF];refine eG (C.ag K1 (by simp)) (aG.bl eB 0 1 1 (by omega) (by simp[ak])) (ji [(N:Int)]) rfl (by simp[ak,maxLen];omega) (by simp[ak];omega) fun Gw A2 C2 K2 oc=>?_;have aal:∀q,az cv q->q<A.size:=fun q hq=>C.bM hq;have s1:=K1.size;have S1:=S.aj K1;have S2:=S1.ag K2 (fun q hq=>(hcv q hq).1) (fun h=>(hcv _ h).2.1 rfl) (fun h=>(hcv _ h).2.2.1 rfl) (fun q hq h=>(hcv _ h).2.2.2 hq) (fun q hq h=>hcd q h hq);obtain⟨lk2,B2⟩:=S2.blk;obtain⟨nl2,O2,U4,hr2⟩:=S2.nd;have c62:cell A2 ⟨sB,6,none⟩=some nv:=by rw[B2.cell];rfl
 have sn2:=O2.sl.ax;have En:ax Gw:=C2.sl.ax;rw[ae];simp-implicitDefEqProofs only[go_sem,zS,↓reduceIte,Za,Zb,Zc,reduceCtorEq,zU,zV,Zf,Zg,Zh,Zi,Zd,Ze,zF,h0,c62];refine aF fun A3 b3 e3 z3 B3 K3=>?_;have S3:=S2.aj K3;obtain⟨nl3,O3,Yp,hr3⟩:=S3.nd;obtain⟨z0,Uu⟩:∃z0:vv,z0=(0,0,(none,0,0),(none,0,0)):=⟨_,rfl⟩
 have nV:Bl A3 b3 (([z0]:List vv).flatMap jC):=by rw[Uu];exact B3
 have X3:bo jC 4 A3 (.slice (some ⟨b3,0,none⟩) 1 1) [z0]:=bo.bl (l:=[z0]) nV (by simp[jC]) (by simp[jC]) (by simp);simp-implicitDefEqProofs only[go_sem,zS,↓reduceIte,Za,Zb,Zc,reduceCtorEq,zU,zV,Zf,Zg,Zh,Zi,Zd,Ze,zF];refine EY (m:=[z0]) uH nX O3 X3 rfl (by simp[Yp,maxLen];omega) (by simp[Yp];omega) fun jX A4 O4 K4 on=>?_;have s2:=K2.size;have s3:=K3.size;have s4:=K4.size;have B43:=K3.bl B2 (by simp);have hno:=S.no;have B44:=K4.bl B43 (fun h=>(hno _ h).2.1 rfl);have nsl:ax jX:=by obtain⟨_,_,_,rfl⟩:=O4.shape;trivial
 have t6:=B44.bk (o:=6) (by simp);have B5:=B44.al 6 jX;have K5:af (fun q=>q=sB) A4 (al A4 ⟨sB,6,none⟩ jX):=(af.refl _ _).al _ (.inl rfl);have o1:jX.oneCell'=true:=aM nsl;have Gx:∀q,az jX q->az nv q\/A3.size<=q:=on;have KA4:af (fun q=>az nv q\/az cv q) A A4:=((K1.any.trans (K2.mono fun q _ h=>.inr h)).trans K3.any).trans (K4.mono fun q _ h=>.inl h);have OA:af (fun q=>q=sB\/az nv q\/az cv q) A (al A4 ⟨sB,6,none⟩ jX):=(KA4.mono fun q _ h=>.inr h).trans (K5.mono fun q _ h=>.inl h);have gl:=Pr S;rw[ae];simp-implicitDefEqProofs only[go_sem,zS,↓reduceIte,Za,Zb,Zc,reduceCtorEq,zU,zV,Zf,Zg,Zh,Zi,Zd,Ze,zF,h0,t6];have bs:=S.bs;have bt:=S.bt;refine⟨o1,?_⟩;rw[ae];simp-implicitDefEqProofs only[go_sem,zS,↓reduceIte,Za,Zb,Zc,reduceCtorEq,ae,zU,zV,Zf,Zg,Zh,Zi,Zd,Ze];have fr:∀q,(q=sB\/az nv q\/az cv q)->H0.size<=q:=fun q h=>by
  rcases h with h|h|h
  ·omega
  ·exact(hno q h).1
  ·exact(hcv q h).1
 have C5:bY (al A4 ⟨sB,6,none⟩ jX) Gw (iL (c0++[(N:Int)])):=by
  have e:iL (c0++[(N:Int)])=iL c0++iL [(N:Int)]:=NX _ _;rw[e];have d1:∀q,az Gw q->q≠sB/\¬az nv q:=fun q hq=>by
   rcases oc q hq with h|h
   ·exact⟨(hcv q h).2.1,(hcv q h).2.2.2⟩
   ·have:=lt.1;exact⟨by omega,fun h'=>by have:=lt.2.2 q h';omega⟩
  exact((C2.ag K3 (by simp)).ag K4 (fun q hq=>(d1 q hq).2)).ag K5 fun q hq=>(d1 q hq).1
 refine hK _ _ jX Gw (fun j hj=>by simp only[bN,hj,if_false]) (by simp-implicitDefEqProofs only[go_sem,zS,↓reduceIte,Za,Zb,Zc,reduceCtorEq,ae,zU,zV,Zf,Zg,Zh,Zi,Zd,Ze]) ⟨S.bM.trans' OA fun q hq h=>by have:=fr q h;omega,S.bs,S.bt,S.ne,S.wb,S.wbo,⟨lk2,B5⟩,?_,⟨nl3++[z0],O4.ag K5 fun q hq e=>?_,by simp[Yp],?_⟩,fun q hq=>?_,fun q hq=>?_⟩ C5 (fun q hq=>?_) (fun q hq=>?_) (fun q hq h=>?_) OA
 ·refine S.st.ag OA fun q hq h=>?_
  cases hq
  rcases h with h|h|h
  ·exact S.ne h.symm
  ·exact(hno _ h).2.2.1 rfl
  ·exact(hcv _ h).2.2.1 rfl
 ·rcases Gx q hq with h|h
  ·exact(hno q h).2.1 e
  ·have:=lt.1;omega
 ·rw[Uu];have hd:=S.dn;exact((hr3.ag K4 (fun q hq h=>(hd q hq).2.2.2.2.2 h) fun _ h=>h).ag K5 (fun q hq h=>(hd q hq).2.2.1 h) fun _ h=>h).push
 ·rcases Gx q hq with h|h
  ·exact hno q h
  ·have h1:=lt.1;have h2:=lt.2.1;refine⟨by omega,by omega,by omega,fun hw=>?_⟩;have:=(S.wbo q hw).2;omega
 ·obtain⟨d1,d2,d3,d4,d5,d6⟩:=S.dn q hq;refine⟨by have:=OA.size;omega,d2,d3,d4,d5,fun h=>?_⟩;rcases Gx q h with h'|h'
  ·exact d6 h'
  ·omega
 ·rcases oc q hq with h|h
  ·exact .inl h
  ·exact .inr (by omega)
 ·rcases Gx q hq with h|h
  ·exact .inl h
  ·exact .inr (by omega)
 ·have:=C2.bM hq;rcases Gx q h with h'|h'
  ·rcases oc q hq with h''|h''
   ·exact(hcv q h'').2.2.2 h'
   ·have:=lt.2.2 q h';omega
  ·omega
structure BQ (P:Program) (Wb:Nat->Prop) (ev:Value) (stop:List (List Int)->Bool) (J:List (List Int)->Hp->Prop):Prop where
 call:∃g ca,ev=.func (.func g) #[] ca/\bF P g=true/\∀seen t v H,stop seen=false->J seen H->aG H v (iL t)->(∀q,aU v q->¬Wb q)->an P g (#[v]++ca) H fun r H'=>r=.bool (stop (seen++[t]))/\J (seen++[t]) H'/\af Wb H H'
 ag:∀seen H H' W,stop seen=false->J seen H->af W H H'->(∀q,Wb q->¬W q)->J seen H'
def pV (P:Program) (k:FuncId) (H0:Hp) (Wb:Nat->Prop) (sB bG eY:Nat) (el di sa mo fv ev:Value) (p:eX) (w:Nat) (stop:List (List Int)->Bool) (J:List (List Int)->Hp->Prop) (m:Nat):Prop:=
 ∀(s:List Int) (nv:Value) (N node:Nat) (L:List eC) (D:Nat->Prop) (σ:Nat->List Int) (seen:List (List Int)) (H:Hp),eM s=m->jV p.el.length s->jW H0 Wb sB bG eY el di sa mo fv ev H s nv N L D->ij p L σ->σ node=s->L.getD node bX=bX->node<N->N+gN w m<=2199023255552->stop seen=false->J seen H→
  an P k #[.pointer (some ⟨sB,0,none⟩),.int .i64 (node:Int)] H fun r H'=>r=.bool (gJ stop seen (c9 p (m+1) s)).2/\J (gJ stop seen (c9 p (m+1) s)).1 H'/\af (Du Wb sB bG nv) H H'∧
   ((gJ stop seen (c9 p (m+1) s)).2=false->∃jX N' L' D' uz,jW H0 Wb sB bG eY el di sa mo fv ev H' s jX N' L' D'/\N<=N'/\N'<=N+gN w m/\(∀q,az jX q->az nv q\/H.size<=q)/\(∀q,D' q->D q\/H.size<=q)/\ij p L' uz/\Pn L L' σ uz node (c9 p (m+1) s=[]))
theorem jW.len (h:jW H0 Wb sB bG eY el di sa mo fv ev H s nv N L D):L.length=N:=by
 obtain⟨nl,o,hl,hr⟩:=h.nd;rw[<-hl,hr.1]
theorem jW.node {node:Nat} (h:jW H0 Wb sB bG eY el di sa mo fv ev H s nv N L D) (hn:node<N) (x:vv) (y:eC) (D':Nat->Prop) (hx:nA H D' x y) (hD:∀q,D q->D' q) (hd:∀q,D' q->q<H.size/\H0.size<=q/\q≠sB/\q≠bG/\¬Wb q/\¬az nv q):
  ∃bn c,nv=.slice (some ⟨bn,0,none⟩) N c/\bK H ⟨bn,node*4,none⟩ 4/\jW H0 Wb sB bG eY el di sa mo fv ev (aA H ⟨bn,node*4,none⟩ (jC x)) s nv N (L.set node y) D'/\af (az nv) H (aA H ⟨bn,node*4,none⟩ (jC x)):=by
 have hL:=h.len;obtain⟨lk,hb⟩:=h.blk;obtain⟨nl,o,hl,hr⟩:=h.nd;have hne:nl≠[]:=by rintro rfl;simp at hl;omega
 obtain⟨bn,c,C,rfl,h1,h2,hB,h3⟩:=o.some hne;have K:af (az (.slice (some ⟨bn,0,none⟩) nl.length c)) H (aA H ⟨bn,node*4,none⟩ (jC x)):=(af.refl _ _).aA _ (.inl rfl);obtain⟨n1,n2,n3,n4⟩:=h.no bn rfl;subst hl;refine⟨bn,c,rfl,hB.bK (o:=node*4) (n:=4) (by omega),⟨h.bM.trans' K fun q hq e=>by have e':q=bn:=e;omega,h.bs,h.bt,h.ne,h.wb,h.wbo,⟨lk,K.bl hb fun e=>n2 e.symm⟩,h.st.ag K fun q hq e=>by cases hq;cases e;exact n3 rfl,⟨nl.set node x,?_,by simp,?_⟩,h.no,fun q hq=>⟨by rw[dP];exact(hd q hq).1,(hd q hq).2⟩⟩,K⟩
 ·exact Pq uH hB h1 h2 h3 (i:=node) (by omega) x
 ·exact(hr.ag K (fun q hq e=>(hd q (hD q hq)).2.2.2.2.2 e) hD).set (by omega) (hx.ag K (fun q hq e=>(hd q hq).2.2.2.2.2 e) fun _ h=>h)
end Go.Mg
namespace Go.Mg
open Go Go.RowKit
variable {H0:Hp} {Wb:Nat->Prop} {sB bG eY:Nat} {el di sa mo fv ev:Value}
def zB (N n:Nat):List Int:=(List.range n).map fun j=>((N+j:Nat):Int)
theorem n9 (N n:Nat):(zB N n).length=n:=by simp[zB]
theorem Gy (N n:Nat):zB N (n+1)=zB N n++[((N+n:Nat):Int)]:=by simp[zB,List.range_succ]
theorem Pt (N n i:Nat) (h:i<(zB N n).length):(zB N n)[i]=((N+i:Nat):Int):=by simp[zB]
theorem xn (s:List Int) (k:Nat) (x u:Int):(s.set k x).set k u=s.set k u:=by simp
variable {n:Nat} {s:List Int}
theorem Ku (h:jV n s) (k:Nat) {u:Int} (hu:0<=u/\u<=256):jV n (s.set k u):=
 ⟨by rw[List.length_set];exact h.1,fun v hv=>by rcases List.mem_or_eq_of_mem_set hv with h'|rfl;exact h.2 v h';exact hu⟩
structure Gz (P:Program) (ι:aJ):Prop where
 full:rN P (ι.f 366)
 brk:mI P ι (ι.f 364)
 idx:rM P (ι.f 157)
 cln:dA P (ι.f 159)
 len:iV P (ι.f 135)
 lis:gC P ι (ι.f 139)
def dI (p:eX) (m kk:Nat) (s:List Int) (us:List Nat):List (List Int):=us.flatMap fun u=>c9 p m (s.set kk ((u:Nat):Int))
theorem Pu (N n:Nat):iN ((List.range n).map fun j=>N+j)=iL (zB N n):=by
 unfold iN zB;rw[List.map_map];rfl
theorem lJ (L:List eC) (n:Nat):L++List.replicate (n+1) bX=(L++List.replicate n bX)++[bX]:=by rw[List.replicate_succ',List.append_assoc]
theorem Pv {P:Program} {ι:aJ} (c:Gz P ι) {p:eX} {fx:List Int} {vs:List Value} {ms:List MV} {w m kk node N:Nat} {stop:List (List Int)->Bool} {J:List (List Int)->Hp->Prop} (hev:BQ P Wb ev stop J)
  (ih:pV P (ι.f 367) H0 Wb sB bG eY el di sa mo fv ev p w stop J m) (PR:uy H0 p fx el di sa mo fv vs ms) (hT:br ι H0) (hG:cD p)
  {f:Fr} {A:Hp} {nv cv:Value} {L:List eC} {D:Nat->Prop} {σ:Nat->List Int} {seen:List (List Int)} {Qb:Ex->Fr->Hp->Prop}
  (h0:f 0=.pointer (some ⟨sB,0,none⟩)) (h1:f 1=.int .i64 (node:Int)) (h5:f 5=.int .i64 (kk:Int)) (h6:f 6=cv)
  (S:jW H0 Wb sB bG eY el di sa mo fv ev A s nv (N+n) (L++List.replicate n bX) D) (Vc:L.length=N) (hI:ij p L σ) (Ep:σ node=s) (Rb:L.getD node bX=bX) (C:bY A cv (iL (zB N n))) (hcv:∀q,az cv q->H0.size<=q/\q≠sB/\q≠bG/\¬az nv q/\¬Wb q) (hcd:∀q,az cv q->¬D q)
  (hU:jV p.el.length s) (hz:eM s=m+1) (hf:s.findIdx? (fun u=>decide (u=0))=some kk) (hn:n=(aD (bS p kk)).length) (hnode:node<N) (hB:N+n+n*gN w m<=2199023255552) (hst:stop seen=false) (hJ:J seen A)
  (hR:∀f' A',f' 4=.bool (gJ stop seen (dI p (m+1) kk s (aD (bS p kk)))).2->J (gJ stop seen (dI p (m+1) kk s (aD (bS p kk)))).1 A'->af (Du Wb sB bG nv) A A'→
   ((gJ stop seen (dI p (m+1) kk s (aD (bS p kk)))).2=false->∃jX N' L' D' uz,jW H0 Wb sB bG eY el di sa mo fv ev A' s jX N' L' D'/\N+n<=N'/\N'<=N+n+n*gN w m/\(∀q,az jX q->az nv q\/A.size<=q)/\(∀q,D' q->D q\/az cv q\/A.size<=q)/\ij p L' uz/\Pn L L' σ uz node (dI p (m+1) kk s (aD (bS p kk))=[]))->Qb .r f' A'):vc P (Gt ι) Qb f A:=by
 unfold Gt kA kB kC kD ke kH kI kN kO kU kd kf kg kY kZ;obtain⟨lk,B⟩:=S.blk;have c6:cell A ⟨sB,6,none⟩=some nv:=by rw[B.cell];rfl
 obtain⟨ca,cl,cc,rfl⟩:=C.shape;have dn0:=S.dn;obtain⟨bn,cn,Vd,hok,S1,K1⟩:=S.node (show node<N+n by omega) (1,(kk:Int),(ca,cl,cc),(none,0,0)) ⟨1,kk,(List.range n).map fun j=>L.length+j,[]⟩ (fun q=>D q\/az (.slice ca cl cc) q)
  ⟨rfl,rfl,by rw[Pu,Vc];exact C.sl,fun q hq=>.inr (C.aU hq),rfl,rfl⟩ (fun q hq=>.inl hq) (fun q hq=>by
   rcases hq with hq|hq
   ·exact dn0 q hq
   ·obtain⟨h1,h2,h3,h4,h5⟩:=hcv q hq;exact⟨C.bM hq,h1,h2,h3,h5,h4⟩)
 have Ta:=bf hf;have hgu:∀u∈aD (bS p kk),u<=256:=fun u hu=>(hG.us kk u (bH.1 hu).2).2;have Rc:ij p ((L++List.replicate n bX).set node ⟨1,kk,(List.range n).map fun j=>L.length+j,[]⟩) (Q8 σ L.length node kk (aD (bS p kk))):=
  hI.branch (by omega) Rb (by rw[Ep];exact Ta.1) (by rw[Ep];exact Ta.2.1) hn hgu
 obtain⟨L1,CQ⟩:∃L1,L1=(L++List.replicate n bX).set node ⟨1,kk,(List.range n).map fun j=>L.length+j,[]⟩:=⟨_,rfl⟩
 obtain⟨Re,Pw⟩:∃Re,Re=Q8 σ L.length node kk (aD (bS p kk)):=⟨_,rfl⟩
 have Yq:L1.length=N+n:=by rw[CQ,List.length_set];simp[Vc]
 have Yr:L1.getD node bX≠bX:=by
  rw[CQ,de (by simp;omega),if_pos rfl];intro h;cases h
 have Tb:∀j,j≠node->L1.getD j bX=L.getD j bX:=fun j hj=>by
  rw[CQ,de (by simp;omega),if_neg hj,mH]
 have Ys:∀j<N,Re j=σ j:=fun j hj=>by rw[Pw];exact if_pos (by omega)
 have Yt:∀j<n,Re (N+j)=s.set kk (((aD (bS p kk)).getD j 0:Nat):Int):=fun j hj=>by
  rw[Pw,Q8,if_neg (by omega),Ep,Vc,Nat.add_sub_cancel_left]
 rw[<-CQ]at Rc S1;rw[<-Pw]at Rc;have e1:jC (1,(kk:Int),(ca,cl,cc),(none,0,0))=[.int .u8 1,.int .i64 (kk:Int),.slice ca cl cc,.slice none 0 0]:=rfl;rw[e1]at S1 K1;have hkl:=(bf hf).1;have a1:bQ #[Value.int .u8 1,.int .i64 (kk:Int),.slice ca cl cc,.slice none 0 0]:=bE rfl;have Su:(0:Int)<=(node:Int)/\(node:Int)<((N+n:Nat):Int):=by omega
 have hw:gQ (gQ (gQ #[Value.int IntKind.u8 0,Value.int IntKind.i64 0,Value.slice none 0 0,Value.slice none 0 0] 0 [Value.int IntKind.u8 1]) 1 [Value.int IntKind.i64 ↑kk]) 2 [.slice ca cl cc]=#[Value.int .u8 1,.int .i64 (kk:Int),.slice ca cl cc,.slice none 0 0]:=rfl;simp-implicitDefEqProofs only[go_sem,zS,↓reduceIte,Za,Zb,Zc,reduceCtorEq,zU,zV,Zf,Zg,Zh,Zi,Zd,Ze,zF,h0,h1,h5,h6,c6,Vd,ai,hok,Su,hw];refine⟨a1,?_⟩;rw[ae];generalize aA A ⟨bn,node*4,none⟩ [Value.int IntKind.u8 1,Value.int IntKind.i64 ↑kk,Value.slice ca cl cc,Value.slice none 0 0]=A1 at S1 K1⊢;have hwn:∀q,Wb q->¬az nv q:=fun q hq h=>(S.no q h).2.2.2 hq;have J1:J seen A1:=hev.ag seen A A1 _ hst hJ K1 hwn;obtain⟨lk1,B1⟩:=S1.blk;have c0:cell A1 ⟨sB,0,none⟩=some el:=by rw[B1.cell];rfl
 have PR1:=PR.aj S1.bM;have hvl:=PR.el;have qU:=hU.1;have hgn:=hG.n;obtain⟨sb,so,sc,e,hld⟩:=PR1.e.ld1 (i:=kk) (by omega);have hS:=PR1.es kk (by omega);generalize vs.getD kk undef=wv at*;simp-implicitDefEqProofs only[go_sem,zS,↓reduceIte,Za,Zb,Zc,reduceCtorEq,zU,zV,Zf,Zg,Zh,Zi,Zd,Ze,zF,h0,h5,c0,e,ai,hvl,hld,aB];refine⟨by omega,?_⟩;refine(c.lis _ _ A1 (hT.ag S1.bM) hS).mono ?_;rintro lv A2 ⟨OL,ol,K2⟩;rw[ae];have vu:aP lv=n:=by rw[OL.sl.len];simp[cf,hn]
 have uI:af (Du Wb sB bG nv) A A2:=(K1.trans K2.any).mono fun q _ h=>.inr (.inr (.inr h));have S2:=S1.aj K2;have s1:=K1.size;have lt:=S.lt;have hno:=S.no;have wbo:=S.wbo;simp-implicitDefEqProofs only[go_sem,zS,↓reduceIte,Za,Zb,Zc,reduceCtorEq,zU,zV,Zf,Zg,Zh,Zi,Zd,Ze,zF,OL.sl.ax,vu];refine aO n [101,7,8,117,4,100] rfl rfl (by omega) (by simp-implicitDefEqProofs only[go_sem,zS,↓reduceIte,Za,Zb,Zc,reduceCtorEq,ae,zU,zV,Zf,Zg,Zh,Zi,Zd,Ze]) (by simp-implicitDefEqProofs only[go_sem,zS,↓reduceIte,Za,Zb,Zc,reduceCtorEq,ae,zU,zV,Zf,Zg,Zh,Zi,Zd,Ze]) (fun i g X=>∃zC Ni x Li Di Px,(jW H0 Wb sB bG eY el di sa mo fv ev X (s.set kk x) zC Ni Li Di/\ij p Li Px/\(∀q,Di q->D q\/az (.slice ca cl cc) q\/A2.size<=q)/\L1.length<=Li.length/\(∀j<L1.length,¬(N<=j/\j<N+i)->Li.getD j bX=L1.getD j bX)/\(∀j<L1.length,Px j=Re j)∧
  (dI p (m+1) kk s ((aD (bS p kk)).take i)=[]->(∀j,N<=j->j<N+i->Li.getD j bX≠bX)/\∀j,L1.length<=j->j<Li.length->Li.getD j bX≠bX))/\N+n<=Ni/\Ni<=N+n+i*gN w m/\(∀q,az zC q->az nv q\/A2.size<=q)∧
  (gJ stop seen (dI p (m+1) kk s ((aD (bS p kk)).take i))).2=false/\J (gJ stop seen (dI p (m+1) kk s ((aD (bS p kk)).take i))).1 X/\af (Du Wb sB bG nv) A X/\af (Du Wb sB bG nv) A2 X/\bY X (.slice ca cl cc) (iL (zB N n))/\bY X lv (cf (bS p kk))) ?_ ?_ ?_
 ·refine⟨nv,N+n,0,L1,(fun q=>D q\/az (.slice ca cl cc) q),Re,⟨?_,Rc,fun q hq=>hq.imp id .inl,Nat.le_refl _,fun j _ _=>rfl,fun j _=>rfl,fun _=>⟨fun j h1 h2=>by omega,fun j h1 h2=>by omega⟩⟩,Nat.le_refl _,by omega,fun q hq=>.inl hq,rfl,?_,uI,af.refl _ _,?_,OL⟩
  ·have:s.set kk 0=s:=by
    have h:=(bf hf).2.1;rw[List.getD_eq_getElem?_getD,List.getElem?_eq_getElem hkl,Option.getD_some]at h;rw[<-h];exact List.set_getElem_self hkl
   rw[this];exact S2
  ·exact hev.ag _ _ _ _ hst J1 K2 (by simp)
  ·exact(C.ag K1 fun q hq h=>(hcv q hq).2.2.2.1 h).ag K2 (by simp)
 ·rintro i g X hi gi gn ⟨zC,Ni,x,Li,Di,Px,⟨SX,IX,dX,lX,oX,Ve,zX⟩,n1,n2,Rf,hd,Vf,KX,IG,CX,LX⟩;simp-implicitDefEqProofs only[go_sem,zS,↓reduceIte,Za,Zb,Zc,reduceCtorEq,ae,zU,zV,Zf,Zg,Zh,Zi,Zd,Ze]at gi gn;obtain⟨u,hu⟩:∃u,u=(aD (bS p kk))[i]'(by omega):=⟨_,rfl⟩
  have Yu:=(bH.1 (show u∈aD (bS p kk) by rw[hu];exact List.getElem_mem _)).2;have hur:=hG.us kk u Yu;have yK:(cf (bS p kk)).length=n:=by simp[cf,hn]
  have hui:(cf (bS p kk))[i]?=some (.int .i64 (u:Int)):=by
   rw[List.getElem?_eq_getElem (by omega)];simp[cf,hu]
  have Yv:(iL (zB N n))[i]?=some (.int .i64 ((N+i:Nat):Int)):=by
   have hl:i<(zB N n).length:=by rw[n9];exact hi
   rw[bW _ _ hl,List.getD_eq_getElem?_getD,List.getElem?_eq_getElem hl,Option.getD_some,Pt]
  obtain⟨b1,o1,q1,Yw,-,hc1⟩:=LX.sl.cells (by intro e;have:=congrArg List.length e;rw[yK]at this;simp at this;omega);rw[yK]at hc1 Yw;have hc1:=(hc1 i hi).trans hui;obtain⟨lkx,BX⟩:=SX.blk;have Yx:cell X ⟨sB,5,none⟩=some (.slice (some ⟨bG,0,none⟩) (s.set kk x).length eY):=by rw[BX.cell];rfl
  have MO:=SX.set (k:=kk) (by simpa using hkl) (u:Int);rw[xn]at MO;have KS:af (fun q=>q=bG) X (al X ⟨bG,kk,none⟩ (.int .i64 (u:Int))):=(af.refl _ _).al _ (.inl rfl);have tS:(cell X ⟨bG,kk,none⟩).isSome=true/\j8 X ⟨bG,kk,none⟩=false:=by
   rcases SX.st with⟨e,_⟩|⟨b,c',L,e,h1,h2,Ra,h3⟩
   ·cases e
   ·simp only[Value.slice.injEq,Option.some.injEq,Addr.mk.injEq,and_true]at e;obtain⟨rfl,e2,rfl⟩:=e;rw[ak,List.length_set]at h1;exact Ra.bk (o:=kk) (by omega)
  have Sm:(0:Int)<=(kk:Int)/\(kk:Int)<((s.set kk x).length:Int):=by rw[List.length_set];omega
  unfold MQ kA kB kC kD kI kK kU kd kf kg kY;simp-implicitDefEqProofs only[go_sem,zS,↓reduceIte,Za,Zb,Zc,reduceCtorEq,zU,zV,Zf,Zg,Zh,Zi,Zd,Ze,zF,h0,h5,gi,Yw,ai,hc1,Yx,Sm,tS];refine⟨by omega,?_⟩;rw[ae];generalize al X ⟨bG,kk,none⟩ (.int .i64 (u:Int))=Y at MO KS⊢;have dC:∀q,az (.slice ca cl cc) q->q≠sB/\q≠bG/\¬az zC q/\¬Wb q:=fun q hq=>by
   obtain⟨_,h2,h3,h4,h5⟩:=hcv q hq;refine⟨h2,h3,fun h=>?_,h5⟩;have:=C.bM hq;rcases Rf q h with h'|h'
   ·exact h4 h'
   ·have:=K2.size;omega
  have dL:∀q,az lv q->q≠sB/\q≠bG/\¬az zC q/\¬Wb q:=fun q hq=>by
   have h1:=ol q hq;have h2:=OL.bM hq;refine⟨by omega,by omega,fun h=>?_,fun h=>?_⟩
   ·rcases Rf q h with h'|h'
    ·have:=lt.2.2 q h';omega
    ·omega
   ·have:=(wbo q h).2;omega
  have CY:=CX.ag KS fun q hq=>(dC q hq).2.1;have LY:=LX.ag KS fun q hq=>(dL q hq).2.1;obtain⟨b2,o2,q2,Vg,-,hc2⟩:=CY.sl.cells (by intro e;have:=congrArg List.length e;rw[ak,n9]at this;simp at this;omega);rw[ak,n9]at hc2 Vg;have hc2:=(hc2 i hi).trans Yv;have JY:J (gJ stop seen (dI p (m+1) kk s ((aD (bS p kk)).take i))).1 Y:=hev.ag _ _ _ _ (uG hst hd) Vf KS fun q hq e=>by rw[e]at hq;exact S.wb.2 hq
  have hzz:eM (s.set kk (u:Int))=m:=by
   have:=gG hkl (bf hf).2.1 (u:=(u:Int)) (by omega);omega
  have Er:i*gN w m+gN w m<=n*gN w m:=by
   have:(i+1)*gN w m<=n*gN w m:=Nat.mul_le_mul_right _ hi;rw[Nat.add_mul,Nat.one_mul]at this;exact this
  simp-implicitDefEqProofs only[go_sem,zS,↓reduceIte,Za,Zb,Zc,reduceCtorEq,zU,zV,Zf,Zg,Zh,Zi,Zd,Ze,zF,h0,h6,Vg,ai,hc2];refine⟨by omega,?_⟩;have hug:(aD (bS p kk)).getD i 0=u:=by rw[List.getD_eq_getElem?_getD,List.getElem?_eq_getElem (by omega),hu];rfl
  have Ya:Px (N+i)=s.set kk (u:Int):=by rw[Ve _ (by omega),Yt i hi,hug]
  have sW:Li.getD (N+i) bX=bX:=by
   rw[oX _ (by omega) (by omega),Tb _ (by omega),List.getD_eq_getElem?_getD,List.getElem?_eq_none (by omega)];rfl
  refine(ih (s.set kk (u:Int)) zC Ni (N+i) Li Di Px _ Y hzz (Ku hU kk (by omega)) MO IX Ya sW (by omega) (by omega) (uG hst hd) JY).mono ?_;rintro r Z ⟨rfl,JZ,KZ,hgo⟩;have Td:gJ stop seen (dI p (m+1) kk s ((aD (bS p kk)).take (i+1)))=gJ stop (gJ stop seen (dI p (m+1) kk s ((aD (bS p kk)).take i))).1 (c9 p (m+1) (s.set kk (u:Int))):=by
   have e:dI p (m+1) kk s ((aD (bS p kk)).take (i+1))=dI p (m+1) kk s ((aD (bS p kk)).take i)++c9 p (m+1) (s.set kk (u:Int)):=by
    unfold dI;rw[List.take_succ_eq_append_getElem (by omega),List.flatMap_append,hu];simp
   rw[e,uF,hd];rfl
  rw[<-Td]at JZ hgo⊢;have kss:∀q,q=bG->Du Wb sB bG nv q:=fun q h=>.inr (.inl h);have kz:∀(B:Hp) q,q<B.size->B.size<=A2.size->Du Wb sB bG zC q->Du Wb sB bG nv q:=fun B q hq Ra h=>by
   rcases h with h|h|h|h
   ·exact .inl h
   ·exact .inr (.inl h)
   ·exact .inr (.inr (.inl h))
   ·rcases Rf q h with h'|h'
    ·exact .inr (.inr (.inr h'))
    ·omega
  have s2:=K2.size;have KZA:af (Du Wb sB bG nv) A Z:=(KX.trans (KS.mono fun q _ h=>kss q h)).trans' KZ fun q hq h=>kz A q hq (by omega) h;have Yy:af (Du Wb sB bG nv) A2 Z:=(IG.trans (KS.mono fun q _ h=>kss q h)).trans' KZ fun q hq h=>kz A2 q hq (Nat.le_refl _) h;rw[ae]
  cases hb:(gJ stop seen (dI p (m+1) kk s ((aD (bS p kk)).take (i+1)))).2 with
  |true=>
   have ek:gJ stop seen (dI p (m+1) kk s (aD (bS p kk)))=gJ stop seen (dI p (m+1) kk s ((aD (bS p kk)).take (i+1))):=by
    have e:dI p (m+1) kk s (aD (bS p kk))=dI p (m+1) kk s ((aD (bS p kk)).take (i+1))++dI p (m+1) kk s ((aD (bS p kk)).drop (i+1)):=by
     unfold dI;rw[<-List.flatMap_append,List.take_append_drop]
    rw[e,uF,hb,if_pos rfl]
   rw[ek]at hR;simp-implicitDefEqProofs only[go_sem,zS,↓reduceIte,Za,Zb,Zc,reduceCtorEq,zU,zV,Zf,Zg,Zh,Zi,Zd,Ze,zF];exact hR _ _ (by simp-implicitDefEqProofs only[go_sem,zS,↓reduceIte,Za,Zb,Zc,reduceCtorEq,ae,zU,zV,Zf,Zg,Zh,Zi,Zd,Ze,hb]) JZ KZA (fun h=>by rw[hb]at h;cases h)
  |false=>
   obtain⟨jX,N',L',D',uz,SZ,m1,m2,Te,Yz,IZ,XZ⟩:=hgo hb;have sY:=KS.size;have sX:=IG.size;have CZ:=CY.ag KZ fun q hq h=>by
    obtain⟨h1,h2,h3,h4⟩:=dC q hq;rcases h with h|h|h|h
    ·exact h1 h
    ·exact h2 h
    ·exact h4 h
    ·exact h3 h
   have LZ:=LY.ag KZ fun q hq h=>by
    obtain⟨h1,h2,h3,h4⟩:=dL q hq;rcases h with h|h|h|h
    ·exact h1 h
    ·exact h2 h
    ·exact h4 h
    ·exact h3 h
   have aay:(i+1)*gN w m=i*gN w m+gN w m:=by rw[Nat.add_mul,Nat.one_mul]
   simp-implicitDefEqProofs only[go_sem,zS,↓reduceIte,Za,Zb,Zc,reduceCtorEq,zU,zV,Zf,Zg,Zh,Zi,Zd,Ze,zF];have hsub:dI p (m+1) kk s ((aD (bS p kk)).take (i+1))=dI p (m+1) kk s ((aD (bS p kk)).take i)++c9 p (m+1) (s.set kk (u:Int)):=by
    unfold dI;rw[List.take_succ_eq_append_getElem (by omega),List.flatMap_append,hu];simp
   have xl:=XZ.len;refine⟨jX,N',(u:Int),L',D',uz,⟨SZ,IZ,fun q hq=>?_,by omega,fun j hj qS=>?_,fun j hj=>?_,fun zD=>?_⟩,by omega,by omega,fun q hq=>?_,hb,JZ,KZA,Yy,by rw[<-Vg];exact CZ,by rw[<-Yw];exact LZ⟩
   ·rcases Yz q hq with h|h
    ·rw[<-Vg];exact dX q h
    ·exact .inr (.inr (by omega))
   ·rw[XZ.bM j (by omega) (by omega)];exact oX j hj (by omega)
   ·rw[XZ.st j (by omega)];exact Ve j hj
   ·rw[hsub,List.append_eq_nil_iff]at zD;obtain⟨z1,z2⟩:=zX zD.1;obtain⟨z3,z4⟩:=XZ.new zD.2;refine⟨fun j h1 h2=>?_,fun j h1 h2=>?_⟩
    ·by_cases e:j=N+i
     ·rw[e];exact z3
     ·rw[XZ.bM j (by omega) e];exact z1 j h1 (by omega)
    ·by_cases e:j<Li.length
     ·rw[XZ.bM j e (by omega)];exact z2 j h1 e
     ·exact z4 j (by omega) h2
   rcases Te q hq with h|h
   ·exact Rf q h
   ·exact .inr (by omega)
 ·rintro g X gi ⟨zC,Ni,x,Li,Di,Px,⟨SX,IX,dX,lX,oX,Ve,zX⟩,n1,n2,Rf,hd,Vf,KX,IG,CX,LX⟩;have wG:(aD (bS p kk)).take n=aD (bS p kk):=List.take_of_length_le (by omega);rw[wG]at hd Vf zX;obtain⟨lkx,BX⟩:=SX.blk;have Yx:cell X ⟨sB,5,none⟩=some (.slice (some ⟨bG,0,none⟩) (s.set kk x).length eY):=by rw[BX.cell];rfl
  have MO:=SX.set (k:=kk) (by simpa using hkl) 0;have pg:(s.set kk x).set kk 0=s:=by
   have h:=(bf hf).2.1;rw[List.getD_eq_getElem?_getD,List.getElem?_eq_getElem hkl,Option.getD_some]at h;rw[xn,<-h];exact List.set_getElem_self hkl
  rw[pg]at MO;have KS:af (fun q=>q=bG) X (al X ⟨bG,kk,none⟩ (.int .i64 0)):=(af.refl _ _).al _ (.inl rfl);have tS:(cell X ⟨bG,kk,none⟩).isSome=true/\j8 X ⟨bG,kk,none⟩=false:=by
   rcases SX.st with⟨e,_⟩|⟨b,c',L,e,h1,h2,Ra,h3⟩
   ·cases e
   ·simp only[Value.slice.injEq,Option.some.injEq,Addr.mk.injEq,and_true]at e;obtain⟨rfl,e2,rfl⟩:=e;rw[ak,List.length_set]at h1;exact Ra.bk (o:=kk) (by omega)
  have Sm:(0:Int)<=(kk:Int)/\(kk:Int)<((s.set kk x).length:Int):=by rw[List.length_set];omega
  simp-implicitDefEqProofs only[go_sem,zS,↓reduceIte,Za,Zb,Zc,reduceCtorEq,zU,zV,Zf,Zg,Zh,Zi,Zd,Ze,zF,h0,h5,Yx,ai,Sm,tS];rw[ae];simp-implicitDefEqProofs only[go_sem,zS,↓reduceIte,Za,Zb,Zc,reduceCtorEq,zU,zV,Zf,Zg,Zh,Zi,Zd,Ze,zF];have s2:=K2.size;refine hR _ _ (by simp-implicitDefEqProofs only[go_sem,zS,↓reduceIte,Za,Zb,Zc,reduceCtorEq,ae,zU,zV,Zf,Zg,Zh,Zi,Zd,Ze,hd]) (hev.ag _ _ _ _ (uG hst hd) Vf KS fun q hq e=>by rw[e]at hq;exact S.wb.2 hq) (KX.trans (KS.mono fun q _ h=>.inr (.inl h))) fun _=>⟨zC,Ni,Li,Di,Px,MO,n1,n2,fun q hq=>(Rf q hq).imp id fun h=>by omega,fun q hq=>(dX q hq).imp id fun h=>h.imp id fun h=>by omega,IX,by omega,fun j hj qS=>?_,fun j hj=>?_,fun zD=>?_⟩
  ·rw[oX j (by omega) (by omega)];exact Tb j qS
  ·rw[Ve j (by omega)];exact Ys j (by omega)
  ·obtain⟨z1,z2⟩:=zX zD;refine⟨by rw[oX node (by omega) (by omega)];exact Yr,fun j h1 h2=>?_⟩
   by_cases e:j<N+n
   ·exact z1 j (by omega) e
   ·exact z2 j (by omega) h2
end Go.Mg
namespace Go.Mg
open Go Go.RowKit
variable {H0:Hp} {Wb:Nat->Prop} {sB bG eY:Nat} {el di sa mo fv ev:Value}
variable {P:Program} {ι:aJ} {p:eX} {fx s:List Int} {vs:List Value} {ms:List MV} {w N:Nat} {stop:List (List Int)->Bool} {J:List (List Int)->Hp->Prop} {nv:Value} {L:List eC} {D:Nat->Prop}
theorem Py (c:Gz P ι) {m kk node:Nat} (hev:BQ P Wb ev stop J)
  (ih:pV P (ι.f 367) H0 Wb sB bG eY el di sa mo fv ev p w stop J m) (PR:uy H0 p fx el di sa mo fv vs ms) (hT:br ι H0) (hG:cD p) (hw:∀k,(aD (bS p k)).length<=w) (hw1:w<=256)
  {f:Fr} {A:Hp} {σ:Nat->List Int} {seen:List (List Int)} {Qb:Ex->Fr->Hp->Prop}
  (h0:f 0=.pointer (some ⟨sB,0,none⟩)) (h1:f 1=.int .i64 (node:Int)) (h5:f 5=.int .i64 (kk:Int))
  (S:jW H0 Wb sB bG eY el di sa mo fv ev A s nv N L D) (hI:ij p L σ) (Ep:σ node=s) (Rb:L.getD node bX=bX)
  (hU:jV p.el.length s) (hz:eM s=m+1) (hf:s.findIdx? (fun u=>decide (u=0))=some kk) (hnode:node<N) (hB:N+gN w (m+1)<=2199023255552) (hst:stop seen=false) (hJ:J seen A)
  (hR:∀f' A',f' 4=.bool (gJ stop seen (dI p (m+1) kk s (aD (bS p kk)))).2->J (gJ stop seen (dI p (m+1) kk s (aD (bS p kk)))).1 A'->af (Du Wb sB bG nv) A A'→
   ((gJ stop seen (dI p (m+1) kk s (aD (bS p kk)))).2=false->∃jX N' L' D' uz,jW H0 Wb sB bG eY el di sa mo fv ev A' s jX N' L' D'/\N<=N'/\N'<=N+gN w (m+1)/\(∀q,az jX q->az nv q\/A.size<=q)/\(∀q,D' q->D q\/A.size<=q)/\ij p L' uz/\Pn L L' σ uz node (dI p (m+1) kk s (aD (bS p kk))=[]))->Qb .r f' A'):vc P (Gu ι) Qb f A:=by
 unfold Gu kA kB kC kD ke kH kI kN kU kd kg kY kZ;obtain⟨n,hn⟩:∃n,n=(aD (bS p kk)).length:=⟨_,rfl⟩
 have hnw:n<=w:=by rw[hn];exact hw kk
 have hmul:n*gN w m<=w*gN w m:=Nat.mul_le_mul_right _ hnw;have hgs:gN w (m+1)=w+w*gN w m:=by rw[gN,Nat.mul_add,Nat.mul_one]
 have hkl:=(bf hf).1;obtain⟨lk,B⟩:=S.blk;have c0:cell A ⟨sB,0,none⟩=some el:=by rw[B.cell];rfl
 have PRA:=PR.aj S.bM;have hvl:=PR.el;have qU:=hU.1;have hgn:=hG.n;obtain⟨sb,so,sc,e,hld⟩:=PRA.e.ld1 (i:=kk) (by omega);have hS:=PRA.es kk (by omega);generalize vs.getD kk undef=wv at*;simp-implicitDefEqProofs only[go_sem,zS,↓reduceIte,Za,Zb,Zc,reduceCtorEq,zU,zV,Zf,Zg,Zh,Zi,Zd,Ze,zF,h0,h5,c0,e,ai,hvl,hld,aB];refine⟨by omega,?_⟩;refine(c.len _ _ A hS).mono ?_;rintro r A1 ⟨rfl,K1⟩;have S1:=S.aj K1;have lt:=S.lt;have hno:=S.no;have s1:=K1.size;rw[ae,<-hn];simp-implicitDefEqProofs only[go_sem,zS,↓reduceIte,Za,Zb,Zc,reduceCtorEq,zU,zV,Zf,Zg,Zh,Zi,Zd,Ze,zF];have wbo:=S.wbo;have hW0:∀q,Wb q->¬(q=sB\/q=bG\/az nv q):=fun q hq h=>by
  rcases h with h|h|h
  ·rw[h]at hq;exact S.wb.1 hq
  ·rw[h]at hq;exact S.wb.2 hq
  ·exact(hno q h).2.2.2 hq
 refine aO n [61,6,60] rfl rfl (by omega) (by simp-implicitDefEqProofs only[go_sem,zS,↓reduceIte,Za,Zb,Zc,reduceCtorEq,ae,zU,zV,Zf,Zg,Zh,Zi,Zd,Ze]) (by simp-implicitDefEqProofs only[go_sem,zS,↓reduceIte,Za,Zb,Zc,reduceCtorEq,ae,zU,zV,Zf,Zg,Zh,Zi,Zd,Ze]) (fun i g X=>∃zC cv,g 6=cv/\jW H0 Wb sB bG eY el di sa mo fv ev X s zC (N+i) (L++List.replicate i bX) D/\bY X cv (iL (zB N i))/\(∀q,az cv q->A1.size<=q)/\(∀q,az zC q->az nv q\/A1.size<=q)/\(∀q,az cv q->¬az zC q)/\af (fun q=>q=sB\/q=bG\/az nv q) A1 X) ?_ ?_ ?_
 ·exact⟨nv,_,rfl,by simpa using S1,bY.nil _,fun q hq=>hq.elim,fun q hq=>.inl hq,fun q hq=>hq.elim,af.refl _ _⟩
 ·rintro i g X hi gi gn ⟨zC,cv,g6,SX,CX,oc,on,dj,KX⟩;simp-implicitDefEqProofs only[go_sem,zS,↓reduceIte,Za,Zb,Zc,reduceCtorEq,ae,zU,zV,Zf,Zg,Zh,Zi,Zd,Ze]at gi gn g6;have sX:=KX.size;have bs:=S.bs;have bt:=S.bt;refine Ps (cv:=cv) (by simp-implicitDefEqProofs only[go_sem,zS,↓reduceIte,Za,Zb,Zc,reduceCtorEq,ae,zU,zV,Zf,Zg,Zh,Zi,Zd,Ze,h0]) (by simp-implicitDefEqProofs only[go_sem,zS,↓reduceIte,Za,Zb,Zc,reduceCtorEq,ae,zU,zV,Zf,Zg,Zh,Zi,Zd,Ze,g6]) SX CX (by rw[n9];omega) (by omega) (fun q hq=>by have:=oc q hq;exact⟨by omega,by omega,by omega,dj q hq⟩) (fun q hq hd=>by have:=oc q hq;have:=(S.dn q hd).1;omega) fun f' A' jX Gw Pc f6 S' C' oc' Te dj' K'=>?_;simp-implicitDefEqProofs only[go_sem,zS,↓reduceIte,Za,Zb,Zc,reduceCtorEq,zU,zV,Zf,Zg,Zh,Zi,Zd,Ze,zF];refine⟨jX,Gw,f6,by rw[lJ];exact S',by rw[Gy];exact C',fun q hq=>?_,fun q hq=>?_,dj',KX.trans' K' fun q hq h=>?_⟩
  ·rcases oc' q hq with h|h
   ·exact oc q h
   ·omega
  ·rcases Te q hq with h|h
   ·exact on q h
   ·exact .inr (by omega)
  ·rcases h with h|h|h
   ·exact .inl h
   ·rcases on q h with h'|h'
    ·exact .inr (.inr h')
    ·omega
   ·have:=oc q h;omega
 ·rintro g X gi ⟨zC,cv,g6,SX,CX,oc,on,dj,KX⟩;simp-implicitDefEqProofs only[go_sem,zS,↓reduceIte,Za,Zb,Zc,reduceCtorEq,ae,zU,zV,Zf,Zg,Zh,Zi,Zd,Ze]at g6;have sX:=KX.size;have bs:=S.bs;have bt:=S.bt;have KAX:af (fun q=>q=sB\/q=bG\/az nv q) A X:=K1.any.trans KX;have JX:=hev.ag _ _ _ _ hst hJ KAX hW0;simp-implicitDefEqProofs only[go_sem,zS,↓reduceIte,Za,Zb,Zc,reduceCtorEq,zU,zV,Zf,Zg,Zh,Zi,Zd,Ze,zF];refine Pv c hev ih PR hT hG (node:=node) (kk:=kk) (N:=N) (n:=n) (cv:=cv) (by simp-implicitDefEqProofs only[go_sem,zS,↓reduceIte,Za,Zb,Zc,reduceCtorEq,ae,zU,zV,Zf,Zg,Zh,Zi,Zd,Ze,h0]) (by simp-implicitDefEqProofs only[go_sem,zS,↓reduceIte,Za,Zb,Zc,reduceCtorEq,ae,zU,zV,Zf,Zg,Zh,Zi,Zd,Ze,h1]) (by simp-implicitDefEqProofs only[go_sem,zS,↓reduceIte,Za,Zb,Zc,reduceCtorEq,ae,zU,zV,Zf,Zg,Zh,Zi,Zd,Ze,h5]) (by simp-implicitDefEqProofs only[go_sem,zS,↓reduceIte,Za,Zb,Zc,reduceCtorEq,ae,zU,zV,Zf,Zg,Zh,Zi,Zd,Ze,g6]) SX S.len hI Ep Rb CX (fun q hq=>by have:=oc q hq;exact⟨by omega,by omega,by omega,dj q hq,fun h=>by have:=(wbo q h).2;omega⟩) (fun q hq hd=>by have:=oc q hq;have:=(S.dn q hd).1;omega) hU hz hf hn hnode (by omega) hst JX fun f' A' f4 JA KA hgo=>?_;refine hR f' A' f4 JA ((KAX.mono fun q _ h=>?_).trans' KA fun q hq h=>?_) fun hb=>?_
  ·rcases h with h|h|h
   ·exact .inl h
   ·exact .inr (.inl h)
   ·exact .inr (.inr (.inr h))
  ·rcases h with h|h|h|h
   ·exact .inl h
   ·exact .inr (.inl h)
   ·exact .inr (.inr (.inl h))
   ·rcases on q h with h'|h'
    ·exact .inr (.inr (.inr h'))
    ·omega
  ·obtain⟨jX,N',L',D',uz,S',m1,m2,Te,Yz,I',X'⟩:=hgo hb;refine⟨jX,N',L',D',uz,S',by omega,by omega,fun q hq=>?_,fun q hq=>?_,I',X'⟩
   ·rcases Te q hq with h|h
    ·rcases on q h with h'|h'
     ·exact .inl h'
     ·exact .inr (by omega)
    ·exact .inr (by omega)
   ·rcases Yz q hq with h|h|h
    ·exact .inl h
    ·exact .inr (by have:=oc q h;omega)
    ·exact .inr (by omega)
theorem jW.look {H:Hp} (h:jW H0 Wb sB bG eY el di sa mo fv ev H s nv N L D) (x:Int):jW H0 Wb sB bG eY el di sa mo fv ev (al H ⟨sB,7,none⟩ (.int .i64 x)) s nv N L D:=by
 obtain⟨lk,hb⟩:=h.blk;obtain⟨nl,o,hn,hr⟩:=h.nd;have K:af (fun q=>q=sB) H (al H ⟨sB,7,none⟩ (.int .i64 x)):=(af.refl _ _).al _ (.inl rfl);exact⟨h.bM.trans' K fun q hq e=>by have:=h.bs;omega,h.bs,h.bt,h.ne,h.wb,h.wbo,⟨x,hb.al 7 (.int .i64 x)⟩,h.st.ag K fun q hq e=>by cases hq;exact h.ne e.symm,⟨nl,o.ag K fun q hq e=>(h.no q hq).2.1 e,hn,hr.ag K (fun q hq e=>(h.dn q hq).2.2.1 e) fun _ h=>h⟩,h.no,fun q hq=>⟨by rw[eZ];exact(h.dn q hq).1,(h.dn q hq).2⟩⟩
theorem GA {k:FuncId} (hk:aq P k (nY ι) nZ 2) (hself:ι.f 367=k) (c:Gz P ι) (hev:BQ P Wb ev stop J)
  (PR:uy H0 p fx el di sa mo fv vs ms) (hT:br ι H0) (hG:cD p) (hF:jV p.el.length fx) (hw:∀k,(aD (bS p k)).length<=w) (hw1:w<=256):∀m,pV P k H0 Wb sB bG eY el di sa mo fv ev p w stop J m:=by
 have main:∀m,(∀m',m'+1=m->pV P k H0 Wb sB bG eY el di sa mo fv ev p w stop J m')->pV P k H0 Wb sB bG eY el di sa mo fv ev p w stop J m:=by
  intro m ih s nv N node L D σ seen H hz hU S hI Ep Rb hnode hB hst hJ;have Vc:=S.len;refine ah hk (args:=[_,_]) (by simp) ?_;unfold nY nZ kA kB kC kD kI kN kU kV kc kd kf kg kY kZ;have qU:=hU.1;have hgn:=hG.n;obtain⟨lk,B⟩:=S.blk;have c7:cell H ⟨sB,7,none⟩=some (.int .i64 lk):=by rw[B.cell];rfl
  have t7:=B.bk (o:=7) (by simp);have S1:=S.look (IntKind.i64.wrap (lk+1));have K1:af (fun q=>q=sB) H (al H ⟨sB,7,none⟩ (.int .i64 (IntKind.i64.wrap (lk+1)))):=(af.refl _ _).al _ (.inl rfl);have J1:J seen (al H ⟨sB,7,none⟩ (.int .i64 (IntKind.i64.wrap (lk+1)))):=hev.ag _ _ _ _ hst hJ K1 fun q hq e=>by rw[e]at hq;exact S.wb.1 hq
  simp-implicitDefEqProofs only[go_sem,zS,↓reduceIte,Za,Zb,Zc,reduceCtorEq,zU,zV,Zf,Zg,Zh,Zi,Zd,Ze,zF,c7,t7];rw[ae];generalize al H ⟨sB,7,none⟩ (.int .i64 (IntKind.i64.wrap (lk+1)))=H1 at S1 K1 J1⊢;obtain⟨lk1,B1⟩:=S1.blk;simp-implicitDefEqProofs only[go_sem,zS,↓reduceIte,Za,Zb,Zc,reduceCtorEq,zU,zV,Zf,Zg,Zh,Zi,Zd,Ze,zF];refine(c.full sB _ lk1 H1 B1 rfl).mono ?_;rintro r H2 ⟨rfl,rfl⟩;rw[ae];have c5:cell H2 ⟨sB,5,none⟩=some (.slice (some ⟨bG,0,none⟩) s.length eY):=by rw[B1.cell];rfl
  have l5:aR H2 ⟨sB,0,none⟩ 5=some #[el,di,sa,mo,fv]:=by
   have:=B1.aR (o:=0) (n:=5) (by simp);simpa using this
  have hv:dE H2 (.agg #[el,di,sa,mo,fv]) p fx:=⟨_,_,_,_,_,_,_,rfl,PR.aj S1.bM⟩
  simp-implicitDefEqProofs only[go_sem,zS,↓reduceIte,Za,Zb,Zc,reduceCtorEq,zU,zV,Zf,Zg,Zh,Zi,Zd,Ze,zF,c5,aB,l5];refine(c.brk p fx s _ _ H2 (hT.ag S1.bM) hv hG hF hU S1.st.sl).mono ?_;rintro r H3 ⟨rfl,K3⟩;have S3:=S1.aj K3;have J3:=hev.ag _ _ _ _ hst J1 K3 (by simp);have MP:af (Du Wb sB bG nv) H H3:=(K1.mono fun q _ h=>.inl h).trans K3.any;obtain⟨lk3,B3⟩:=S3.blk;have c53:cell H3 ⟨sB,5,none⟩=some (.slice (some ⟨bG,0,none⟩) s.length eY):=by rw[B3.cell];rfl
  have c63:cell H3 ⟨sB,6,none⟩=some nv:=by rw[B3.cell];rfl
  have c93:cell H3 ⟨sB,9,none⟩=some ev:=by rw[B3.cell];rfl
  have sH1:=K1.size;have sH3:=K3.size;rw[ae]
  by_cases zw:cZ p s=true
  ·have hL:c9 p (m+1) s=[]:=by rw[c9,if_pos zw]
   rw[hL];obtain⟨bn,cn,Vd,hok,S4,K4⟩:=S3.node hnode (2,0,(none,0,0),(none,0,0)) ⟨2,0,[],[]⟩ D ⟨rfl,rfl,aG.nil _ _ _,fun q h=>h.elim,rfl,rfl⟩ (fun _ h=>h) S3.dn;have e1:jC (2,0,(none,0,0),(none,0,0))=[.int .u8 2,.int .i64 0,.slice none 0 0,.slice none 0 0]:=rfl;rw[e1]at S4 K4;have a1:bQ #[Value.int .u8 2,.int .i64 0,.slice none 0 0,.slice none 0 0]:=bE rfl;have EM:gQ #[Value.int IntKind.u8 0,Value.int IntKind.i64 0,Value.slice none 0 0,Value.slice none 0 0] 0 [Value.int IntKind.u8 2]=#[Value.int .u8 2,.int .i64 0,.slice none 0 0,.slice none 0 0]:=rfl;have Su:(0:Int)<=(node:Int)/\(node:Int)<(N:Int):=by omega
   simp-implicitDefEqProofs only[go_sem,zS,↓reduceIte,Za,Zb,Zc,reduceCtorEq,zU,zV,Zf,Zg,Zh,Zi,Zd,Ze,zF,zw,c63,Vd,ai,hok,Su,EM];refine⟨a1,?_⟩;rw[ae];generalize aA H3 ⟨bn,node*4,none⟩ [Value.int .u8 2,.int .i64 0,.slice none 0 0,.slice none 0 0]=H4 at S4 K4⊢;simp-implicitDefEqProofs only[go_sem,zS,↓reduceIte,Za,Zb,Zc,reduceCtorEq,zU,zV,Zf,Zg,Zh,Zi,Zd,Ze,zF];rw[<-Vd];have J4:=hev.ag _ _ _ _ hst J3 K4 fun q hq h=>(S.no q h).2.2.2 hq;exact⟨rfl,J4,MP.trans (K4.mono fun q _ h=>.inr (.inr (.inr h))),fun _=>⟨nv,N,_,D,σ,S4,Nat.le_refl _,by omega,fun q hq=>.inl hq,fun q hq=>.inl hq,hI.AK (by omega) Rb (by rw[Ep];exact zw),by simp,fun j hj qS=>by rw[de (by omega),if_neg qS],fun j hj=>rfl,fun _=>⟨(by rw[de (by omega),if_pos rfl];intro h;cases h),(fun j h1 h2=>by rw[List.length_set]at h2;omega)⟩⟩⟩
  have zw:cZ p s=false:=by simpa using zw
  simp-implicitDefEqProofs only[go_sem,zS,↓reduceIte,Za,Zb,Zc,reduceCtorEq,zU,zV,Zf,Zg,Zh,Zi,Zd,Ze,zF,zw,c53];refine(c.idx s _ 0 H3 S3.st.sl (by omega)).mono ?_;rintro r H4 ⟨rfl,rfl⟩;rw[ae]
  cases Rg:s.findIdx? (fun u=>decide (u=0))with
  |none=>
   have hL:c9 p (m+1) s=[s]:=by rw[c9,if_neg (by rw[zw];simp),Rg]
   rw[hL];have YA:zx 0 s=-1:=by unfold zx;rw[Rg]
   simp-implicitDefEqProofs only[go_sem,zS,↓reduceIte,Za,Zb,Zc,reduceCtorEq,zU,zV,Zf,Zg,Zh,Zi,Zd,Ze,zF,YA];obtain⟨g,ca,gx,xP,hgc⟩:=hev.call;have ws:Wb sB=False:=eq_false S.wb.1;have wt:Wb bG=False:=eq_false S.wb.2;unfold MR kW kX ka kg;refine bC Wb ?_;simp-implicitDefEqProofs only[go_sem,zS,↓reduceIte,Za,Zb,Zc,reduceCtorEq,zU,zV,Zf,Zg,Zh,Zi,Zd,Ze,zF,c53,c93,ws,wt];refine(c.cln s _ H4 S3.st.sl (by omega)).mono ?_;rintro v H5 ⟨O5,o5,K5⟩;have J5:=hev.ag _ _ _ _ hst J3 K5 (by simp);have S5:=S3.aj K5;rw[aK];refine⟨K5.any,?_⟩;simp-implicitDefEqProofs only[go_sem,zS,↓reduceIte,Za,Zb,Zc,reduceCtorEq,zU,zV,Zf,Zg,Zh,Zi,Zd,Ze,zF,gx];refine⟨xP,(hgc seen s v H5 hst J5 O5.sl fun q hq hWq=>?_).mono ?_⟩
   ·have:=o5 q (O5.aU hq);have:=(S.wbo q hWq).2;have:=S3.lt.1;omega
   rintro r H6 ⟨rfl,J6,K6⟩;have MF:gJ stop seen [s]=(seen++[s],stop (seen++[s])):=by
    rw[gJ]
    cases hs:stop (seen++[s])with
    |true=>rfl
    |false=>rfl
   rw[aK];refine⟨K6,?_⟩;simp-implicitDefEqProofs only[go_sem,zS,↓reduceIte,Za,Zb,Zc,reduceCtorEq,zU,zV,Zf,Zg,Zh,Zi,Zd,Ze,zF];rw[MF,<-gx];exact⟨rfl,J6,(MP.trans K5.any).trans (K6.mono fun q _ h=>.inr (.inr (.inl h))),fun _=>⟨nv,N,L,D,σ,S5.ag K6 (fun q hq=>(S.wbo q hq).1) S.wb.1 S.wb.2 (fun q hq=>(S.no q hq).2.2.2) (fun q hq=>(S.dn q hq).2.2.2.2.1),Nat.le_refl _,by omega,fun q hq=>.inl hq,fun q hq=>.inl hq,hI,Nat.le_refl _,fun _ _ _=>rfl,fun _ _=>rfl,fun h=>by cases h⟩⟩
  |some kk=>
   have YA:zx 0 s=(kk:Int):=by unfold zx;rw[Rg]
   have d0:decide ((kk:Int)<0)=false:=decide_eq_false (by omega);simp-implicitDefEqProofs only[go_sem,zS,↓reduceIte,Za,Zb,Zc,reduceCtorEq,zU,zV,Zf,Zg,Zh,Zi,Zd,Ze,zF,YA,d0];have hzp:0<eM s:=by
    unfold eM;obtain⟨k1,k2,_⟩:=bf Rg;rw[List.getD_eq_getElem?_getD,List.getElem?_eq_getElem k1,Option.getD_some]at k2;exact List.countP_pos_iff.2 ⟨s[kk],List.getElem_mem _,by simp[k2]⟩
   obtain⟨m',rfl⟩:∃m',m=m'+1:=⟨m -1,by omega⟩
   have hL:c9 p (m'+1+1) s=dI p (m'+1) kk s (aD (bS p kk)):=by
    conv=>lhs;rw[c9]
    rw[if_neg (by rw[zw];simp),Rg];rfl
   have ihm:=ih m' rfl;rw[<-hself]at ihm;rw[hL];refine Py c hev ihm PR hT hG hw hw1 (node:=node) (kk:=kk) (by simp-implicitDefEqProofs only[go_sem,zS,↓reduceIte,Za,Zb,Zc,reduceCtorEq,ae,zU,zV,Zf,Zg,Zh,Zi,Zd,Ze]) (by simp-implicitDefEqProofs only[go_sem,zS,↓reduceIte,Za,Zb,Zc,reduceCtorEq,ae,zU,zV,Zf,Zg,Zh,Zi,Zd,Ze]) (by simp-implicitDefEqProofs only[go_sem,zS,↓reduceIte,Za,Zb,Zc,reduceCtorEq,ae,zU,zV,Zf,Zg,Zh,Zi,Zd,Ze]) S3 hI Ep Rb hU hz Rg hnode hB hst J3 fun f' A' f4 JA KA hgo=>?_;simp-implicitDefEqProofs only[go_sem,zS,↓reduceIte,Za,Zb,Zc,reduceCtorEq,ae,zU,zV,Zf,Zg,Zh,Zi,Zd,Ze,zF,f4];exact⟨JA,MP.trans KA,fun hb=>by
    obtain⟨jX,N',L',D',uz,S',m1,m2,on,dn,I',X'⟩:=hgo hb;exact⟨jX,N',L',D',uz,S',m1,m2,fun q hq=>(on q hq).imp id fun h=>by omega,fun q hq=>(dn q hq).imp id fun h=>by omega,I',X'⟩⟩
 intro m
 induction m with
 |zero=>exact main 0 fun m' h=>by omega
 |succ m ih=>
  refine main (m+1) fun m' h=>?_;have:m'=m:=by omega
  subst this;exact ih
end Go.Mg
