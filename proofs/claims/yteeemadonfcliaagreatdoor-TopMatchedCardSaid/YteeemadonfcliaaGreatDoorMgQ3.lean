/- Lemmas of ours. No conditions. -/
import Derived.Test.YteeemadonfcliaaGreatDoorMgGA
open Nat renaming reduceEqDiff→Za,reduceAdd→Zb,reduceMul→Zc,reduceLeDiff→Zd,reduceLT→Ze
open Int renaming reduceBEq→Zf,reduceBNe→Zg,reduceLE→Zh,reduceLT→Zi
set_option linter.all false
set_option maxRecDepth 100000
namespace Go.Mg
open Go Go.RowKit
def p6 (ι:aJ):S:=
 kY [kC 4 (.bool false)] (kY [kA 5 0,kU 6 (.ld (.v 1)),kU 7 (.cm .leq .i64 (.t 5) (.t 6)),kF 8 7,kS 9 8 false 0,kT 10 8 false (.ld (.v 2)),kT 11 8 false (.cm .geq .i64 (.t 9) (.t 10)),kU 12 (.pick (.t 8) (.c (.bool true)) (.t 11)),kB 4 12] .ret)
def p7:List RV:=[.t 4]
def uP (ι:aJ):S:=
 kY [kR 3 (ι.t 368) 0,kR 4 (ι.t 26) 1,kR 5 (ι.t 26) 2,kC 6 (.bool false)] (.seq (kY [kG 7 0 3,kV 8 (.ld (.t 7))] (.blk 0 (kY [kU 10 (.cm .eql .u8 (.v 8) (.c (.int .u8 1))),kB 9 10] (.ite (.v 9) (kY [kG 11 3 3,kD 12 11,kL 13 12,kU 14 (.cm .eql .i64 (.t 13) (.c (.int .i64 0))),kF 15 14,kT 16 15 true (.fa 2 (.v 3)),kT 17 15 true (.ld (.t 16)),kT 18 15 true (.m (.mkf (ι.f 432) [] [.v 4,.v 5])),.ge (.t 19) (.t 15) true (kg (ι.f 354) [.t 17,.t 18]),kT 20 15 true (.not (.t 19)),kJ 21 15 20,kB 6 21] .ret) (kY [kU 23 (.cm .eql .u8 (.v 8) (.c (.int .u8 2))),kB 22 23] (.ite (.v 22) (kY [kG 24 1 3,kD 25 24,kU 26 (.cm .eql .i64 (.t 25) (.c (.int .i64 0))),kF 27 26,kT 28 27 true (.fa 2 (.v 3)),kT 29 27 true (.ld (.t 28)),kT 30 27 true (.m (.lenl (.t 29))),kT 31 27 true (.cm .eql .i64 (.t 30) (.c (.int .i64 0))),kJ 32 27 31,kF 33 32,kT 34 33 true (.fa 3 (.v 3)),kT 35 33 true (.ld (.t 34)),kT 36 33 true (.m (.lenl (.t 35))),kT 37 33 true (.cm .eql .i64 (.t 36) (.c (.int .i64 0))),kJ 38 33 37,kB 6 38] .ret) (kY [kU 40 (.cm .eql .u8 (.v 8) (.c (.int .u8 3))),kB 39 40] (.ite (.v 39) (kY [kG 41 1 3,kD 42 41,kU 43 (.cm .eql .i64 (.t 42) (.c (.int .i64 0))),kF 44 43,kT 45 44 true (.fa 2 (.v 3)),kT 46 44 true (.ld (.t 45)),kT 47 44 true (.m (.lenl (.t 46))),kT 48 44 true (.cm .eql .i64 (.t 47) (.c (.int .i64 0))),kJ 49 44 48,kB 6 49] .ret) .skip)))))))) (kY [kC 6 (.bool false)] .ret))
def uQ:List RV:=[.t 6]
def uR (ι:aJ):S:=
 kY [kR 1 (ι.t 372) 0,kC 2 (.int .i64 0),kC 3 (.bool false)] (kY [kG 14 0 1,kD 15 14,kL 16 15,kB 4 16] (.seq (kY [kG 17 0 1,kV 18 (.ld (.t 17)),kO 19 18,kC 20 (.int .i64 0)] (.blk 0 (.loop (kY [kH 21 20 19] (.seq (.ite (.v 21) .skip (.exit 0)) (.seq (.blk 1 (kY [kA 22 20,kK 23 4 18 20,kN 24 4 23,kd 6 (.new (ι.t 368) #[.int .u8 0,.int .i64 0,kZ,kZ]),kB 5 22,kf (.stn 4 (.v 6) (.t 24))] (kY [kM 25 4 6,kA 26 5,kA 27 4,kc 28 (kg (ι.f 433) [.t 25,.t 26,.t 27]),kV 29 (.not (.t 28))] (.ite (.v 29) (kY [kA 30 5,kB 2 30,kC 3 (.bool false)] .ret) .skip)))) (.reg [ke 31 20,kB 20 31]))))))) (kY [kA 32 4,kc 33 (.nq (ι.t 26) 1 8 #[.int .i64 0] (.t 32) (.t 32)),kB 7 33] (.seq (kY [kG 34 0 1,kV 35 (.ld (.t 34)),kO 36 35,kC 37 (.int .i64 0)] (.blk 2 (.loop (kY [kH 38 37 36] (.seq (.ite (.v 38) .skip (.exit 2)) (.seq (.blk 3 (kY [kK 39 4 35 37,kN 40 4 39,kd 9 (.new (ι.t 368) #[.int .u8 0,.int .i64 0,kZ,kZ]),kf (.stn 4 (.v 9) (.t 40))] (kY [kG 41 2 9,kV 42 (.ld (.t 41)),kO 43 42,kC 44 (.int .i64 0)] (.blk 4 (.loop (kY [kH 45 44 43] (.seq (.ite (.v 45) .skip (.exit 4)) (.seq (.blk 5 (kY [kK 46 1 42 44,kD 47 46,kB 11 47] (.reg [kA 48 7,kA 49 11,kI 50 1 48 49,kD 51 50,kU 52 (.ar .add .i64 (.t 51) (.c (.int .i64 1))),kI 53 1 48 49,kf (.st (.t 53) (.t 52))]))) (.reg [ke 54 44,kB 44 54]))))))))) (.reg [ke 55 37,kB 37 55]))))))) (.seq (kY [kV 56 (.mv (.v 7)),kO 57 56,kC 58 (.int .i64 0)] (.blk 6 (.loop (kY [kH 59 58 57] (.seq (.ite (.v 59) .skip (.exit 6)) (.seq (.blk 7 (kY [kA 60 58,kK 61 1 56 58,kD 62 61,kB 12 60,kB 13 62] (kY [kA 63 12,kU 64 (.cm .gtr .i64 (.t 63) (.c (.int .i64 0))),kF 65 64,kS 66 65 true 13,kT 67 65 true (.cm .neq .i64 (.t 66) (.c (.int .i64 1))),kJ 68 65 67,kF 69 68,kS 70 69 false 12,kT 71 69 false (.cm .eql .i64 (.t 70) (.c (.int .i64 0))),kT 72 69 false (.mv (.t 71)),kS 73 72 true 13,kT 74 72 true (.cm .neq .i64 (.t 73) (.c (.int .i64 0))),kT 75 69 false (.pick (.t 72) (.t 74) (.c (.bool false))),kV 76 (.pick (.t 69) (.c (.bool true)) (.t 75))] (.ite (.v 76) (kY [kA 77 12,kB 2 77,kC 3 (.bool false)] .ret) .skip)))) (.reg [ke 78 58,kB 58 78]))))))) (kY [kA 79 4,kU 80 (.cm .gtr .i64 (.t 79) (.c (.int .i64 0))),kC 2 (.int .i64 0),kB 3 80] .ret))))))
def uS:List RV:=[.t 2,.t 3]
def MT (P:Program) (q:Int->Bool) (l:List Int) (g:FuncId) (ca:Array Value) (H:Hp):Prop:=bF P g=true/\∀x∈l,an P g (#[.int .i64 x]++ca) H fun r A'=>r=.bool (q x)/\A'=H
def rQ (P:Program) (k:FuncId):Prop:=∀(l:List Int) (q:Int->Bool) (v:Value) (g:FuncId) (ca:Array Value) (H:Hp),aG H v (iL l)->l.length<=1000000->MT P q l g ca H->an P k #[v,.func (.func g) #[] ca] H fun r H'=>r=.int .i64 (ja q l)/\H'=H
variable {P:Program} {ι:aJ} {k:FuncId} {H H':Hp} {i n:Nat} {x:vv} {y:eC} {rv:Value} {L:List eC} {p:eX} {fx:List Int} {σ:Nat->List Int}
theorem GL (hk:aq P k (pL ι) pM 2):rQ P k:=by
 intro l q v g ca H hv hl ⟨hg,hq⟩;refine ah hk (args:=[_,_]) (by simp) ?_;unfold pL pM kA kB kC kD ke kH kI kV kd kY;have hlen:aP v=l.length:=by rw[hv.len,ak]
 simp-implicitDefEqProofs only[go_sem,zS,↓reduceIte,Za,Zb,Zc,reduceCtorEq,ae,zU,zV,Zf,Zg,Zh,Zi,Zd,Ze,zF,hv.ax,hlen];refine aO l.length [9,5,16,4,8] rfl rfl (by omega) (by simp-implicitDefEqProofs only[go_sem,zS,↓reduceIte,Za,Zb,Zc,reduceCtorEq,ae,zU,zV,Zf,Zg,Zh,Zi,Zd,Ze]) (by simp-implicitDefEqProofs only[go_sem,zS,↓reduceIte,Za,Zb,Zc,reduceCtorEq,ae,zU,zV,Zf,Zg,Zh,Zi,Zd,Ze]) (fun i g A=>(∀j<i,∀hj:j<l.length,q l[j]=false)/\A=H) ⟨fun j h=>by omega,rfl⟩ ?_ ?_
 ·rintro i f A hi gi gn ⟨hno,rfl⟩;simp-implicitDefEqProofs only[go_sem,zS,↓reduceIte,Za,Zb,Zc,reduceCtorEq,ae,zU,zV,Zf,Zg,Zh,Zi,Zd,Ze]at gi gn;obtain⟨b,o,c,e,hc⟩:=hv.Pm hi;have p8:=hq l[i] (List.getElem_mem hi);simp-implicitDefEqProofs only[go_sem,zS,↓reduceIte,Za,Zb,Zc,reduceCtorEq,ae,zU,zV,Zf,Zg,Zh,Zi,Zd,Ze,zF,gi,e,ai,hc,hg];refine⟨by omega,?_⟩;simp only[Array.empty_append]at p8⊢;refine p8.mono ?_;rintro r A1 ⟨rfl,rfl⟩;rw[ae];simp-implicitDefEqProofs only[go_sem,zS,↓reduceIte,Za,Zb,Zc,reduceCtorEq,ae,zU,zV,Zf,Zg,Zh,Zi,Zd,Ze,zF];refine sC (fun hb=>?_) (fun hb=>?_)
  ·have:l.findIdx? q=some i:=List.findIdx?_eq_some_iff_getElem.2 ⟨hi,hb,fun j hj=>by rw[hno j hj (by omega)];simp⟩;simp only[ja,this]
  ·refine fun j hj sQ=>?_
   by_cases e:j=i
   ·subst e;exact hb
   ·exact hno j (by omega) sQ
 ·rintro f A -⟨hno,rfl⟩;simp-implicitDefEqProofs only[go_sem,zS,↓reduceIte,Za,Zb,Zc,reduceCtorEq,ae,zU,zV,Zf,Zg,Zh,Zi,Zd,Ze,zF];have:l.findIdx? q=none:=by
   rw[List.findIdx?_eq_none_iff];intro x hx;obtain⟨j,hj,rfl⟩:=List.getElem_of_mem hx;exact hno j hj hj
  simp only[ja,this]
def mL (P:Program) (k:FuncId):Prop:=∀(l:List Int) (q:Int->Bool) (v:Value) (g:FuncId) (ca:Array Value) (H:Hp),aG H v (iL l)->l.length<=1000000->MT P q l g ca H->an P k #[v,.func (.func g) #[] ca] H fun r H'=>r=.bool (l.any q)/\H'=H
theorem GM (hk:aq P k (pN ι) pO 2) (hi:rQ P (ι.f 353)):mL P k:=by
 intro l q v g ca H hv hl ha;refine ah hk (args:=[_,_]) (by simp) ?_;unfold pN pO kA kB kC kU kc kg kY;simp-implicitDefEqProofs only[go_sem,zS,↓reduceIte,Za,Zb,Zc,reduceCtorEq,ae,zU,zV,Zf,Zg,Zh,Zi,Zd,Ze];refine(hi l q v g ca H hv hl ha).mono ?_;rintro r A ⟨rfl,rfl⟩;rw[ae];simp-implicitDefEqProofs only[go_sem,zS,↓reduceIte,Za,Zb,Zc,reduceCtorEq,ae,zU,zV,Zf,Zg,Zh,Zi,Zd,Ze,mF]
theorem aG.nat {v:Value} {l:List Nat} (h:aG H v (iN l)) (hi:i<l.length):∃b o c,v=.slice (some ⟨b,o,none⟩) l.length c/\Mg.cell H ⟨b,o+i,none⟩=some (.int .i64 ((l[i]:Nat):Int)):=by
 obtain⟨b,o,c,rfl,hc,hl⟩:=h.cells (by intro e;have h:=congrArg List.length e;rw[bw,List.length_nil]at h;omega);rw[bw]at hl⊢;refine⟨b,o,c,rfl,?_⟩;rw[hl i hi];simp[iN,iL,hi]
structure PH (H:Hp) (x:vv) (y:eC):Prop where
 kd:x.1=(y.kd:Int)
 st:x.2.1=(y.st:Int)
 ch:aG H (mJ x.2.2.1) (iN y.ch)
 sp:aG H (mJ x.2.2.2) (iN y.sp)
theorem PH.aj (h:PH H x y) (hk:af (fun _=>False) H H'):PH H' x y:=⟨h.kd,h.st,h.ch.ag hk (by simp),h.sp.ag hk (by simp)⟩
theorem nA.g {D:Nat->Prop} (h:nA H D x y):PH H x y:=⟨h.kd,h.st,h.ch,by rw[h.sv,h.sp];exact aG.nil _ _ _⟩
structure uT (H:Hp) (rv:Value) (L:List eC):Prop where
 nd:∃nl,bo jC 4 H rv nl/\nl.length=L.length/\∀i<L.length,PH H (nl.getD i zy) (L.getD i bX)
 few:L.length<=2199023255552
theorem uT.aj (h:uT H rv L) (hk:af (fun _=>False) H H'):uT H' rv L:=by
 obtain⟨⟨nl,h1,h2,h3⟩,h4⟩:=h;exact⟨⟨nl,h1.aj hk,h2,fun i hi=>(h3 i hi).aj hk⟩,h4⟩
theorem PB.g {H0:Hp} (h:PB H0 p fx H rv):∃L σ,uT H rv L/\iC p fx L σ:=by
 obtain⟨nl,L,σ,h1,h2,h3,h4,h5⟩:=h;exact⟨L,σ,⟨⟨nl,h1,h2.1,fun i hi=>(h2.2 i hi).g⟩,h5⟩,h3⟩
def zO (i n:Nat) (y:eC):Prop:=(y.kd=1/\y.sp=[]/\y.ch.length<=4096/\∀k∈y.ch,i<k/\k<n)\/y=⟨2,0,[],[]⟩\/(y.kd=3/\y.st=0/\y.ch=[])
theorem xj.form {x:eC} (h:xj p n σ i x):zO i n x:=by
 rcases h with⟨h1,h2,h3,h4,h5,h6⟩|⟨h,_⟩|⟨h1,h2,h3,_⟩
 ·refine .inl ⟨h1,h2,by rw[h5,bR];exact dw _ _,fun k hk=>?_⟩;obtain⟨j,hj,rfl⟩:=List.getElem_of_mem hk;obtain⟨a,b,_⟩:=h6 j hj;rw[List.getD_eq_getElem?_getD,List.getElem?_eq_getElem hj,Option.getD_some]at a b;exact⟨a,b⟩
 ·exact .inr (.inl h)
 ·exact .inr (.inr ⟨h1,h2,h3⟩)
def rR (P:Program) (k:FuncId):Prop:=bF P k=true/\∀(x i n:Int) (b c:Nat) (H:Hp),Bl H b [.int .i64 i]->Bl H c [.int .i64 n]->an P k #[.int .i64 x,.pointer (some ⟨b,0,none⟩),.pointer (some ⟨c,0,none⟩)] H fun r H'=>r=.bool (decide (x<=i)||decide (x≥n))/\H'=H
theorem Dw (hk:aq P k (p6 ι) p7 3):rR P k:=by
 refine⟨hk.body,fun x i n b c H B C=>?_⟩;refine ah hk (args:=[_,_,_]) (by simp) ?_;unfold p6 p7 kA kB kF kC kS kT kU kY;have cb:cell H ⟨b,0,none⟩=some (.int .i64 i):=by rw[B.cell];rfl
 have cc:cell H ⟨c,0,none⟩=some (.int .i64 n):=by rw[C.cell];rfl
 by_cases h:x<=i
 ·simp-implicitDefEqProofs only[go_sem,zS,↓reduceIte,Za,Zb,Zc,reduceCtorEq,ae,zU,zV,Zf,Zg,Zh,Zi,Zd,Ze,zF,cb,cc,h];rfl
 ·simp-implicitDefEqProofs only[go_sem,zS,↓reduceIte,Za,Zb,Zc,reduceCtorEq,ae,zU,zV,Zf,Zg,Zh,Zi,Zd,Ze,zF,cb,cc,h,Bool.false_or]
def mM (P:Program) (k:FuncId):Prop:=∀(x:vv) (y:eC) (i n:Nat) (H:Hp),PH H x y->zO i n y->an P k #[.agg (jC x).toArray,.int .i64 (i:Int),.int .i64 (n:Int)] H fun r H'=>r=.bool true/\af (fun _=>False) H H'
theorem GN (hk:aq P k (uP ι) uQ 3) (h1:rR P (ι.f 432)) (hc:mL P (ι.f 354)):mM P k:=by
 intro x y i n H hx hf;refine ah hk (args:=[_,_,_]) (by simp) ?_;unfold uP uQ kB kF kC kD kG kJ kL kR kT kU kV kg kY;obtain⟨x1,x2,x3,x4⟩:=x;obtain⟨Bx,hst,vY,hsp⟩:=hx;simp only at Bx hst vY hsp;subst Bx hst;simp-implicitDefEqProofs only[go_sem,zS,↓reduceIte,Za,Zb,Zc,reduceCtorEq,zU,zV,Zf,Zg,Zh,Zi,Zd,Ze,zF,jC];refine ay fun H1 b3 e3 z3 B3 K3=>?_;simp-implicitDefEqProofs only[go_sem,zS,↓reduceIte,Za,Zb,Zc,reduceCtorEq,zU,zV,Zf,Zg,Zh,Zi,Zd,Ze,zF];refine ay fun H2 b4 e4 z4 B4 K4=>?_;simp-implicitDefEqProofs only[go_sem,zS,↓reduceIte,Za,Zb,Zc,reduceCtorEq,zU,zV,Zf,Zg,Zh,Zi,Zd,Ze,zF];refine ay fun H3 b5 e5 z5 B5 K5=>?_;have nV:Bl H3 b3 [.int .u8 (y.kd:Int),.int .i64 (y.st:Int),mJ x3,mJ x4]:=(K4.trans K5).bl B3 (by simp);have Dc:Bl H3 b4 [.int .i64 (i:Int)]:=K5.bl B4 (by simp);have Em:Bl H3 b5 [.int .i64 (n:Int)]:=B5;have K:=(K3.trans K4).trans K5;have vY:=vY.ag K (by simp);have hsp:=hsp.ag K (by simp);have c0:cell H3 ⟨b3,0,none⟩=some (.int .u8 (y.kd:Int)):=by rw[nV.cell];rfl
 have c1:cell H3 ⟨b3,1,none⟩=some (.int .i64 (y.st:Int)):=by rw[nV.cell];rfl
 have c2:cell H3 ⟨b3,2,none⟩=some (mJ x3):=by rw[nV.cell];rfl
 have c3:cell H3 ⟨b3,3,none⟩=some (mJ x4):=by rw[nV.cell];rfl
 have l3:aP (mJ x3)=y.ch.length:=by rw[vY.len,bw]
 have l4:aP (mJ x4)=y.sp.length:=by rw[hsp.len,bw]
 have s3:=vY.ax;have s4:=hsp.ax;have xS:((0:Int)==0)=true:=rfl;rcases hf with⟨f1,f2,f3,f4⟩|rfl|⟨f1,f2,f3⟩
 ·have d1:(((1:Nat):Int)==1)=true:=rfl;have la:(y.sp.length:Int)=0:=by rw[f2];rfl
  simp-implicitDefEqProofs only[go_sem,zS,↓reduceIte,Za,Zb,Zc,reduceCtorEq,zU,zV,Zf,Zg,Zh,Zi,Zd,Ze,zF,c0,c1,c2,c3,l3,l4,s3,s4,f1,d1,la,xS];refine(hc (nI y.ch) (fun x=>decide (x<=(i:Int))||decide (x≥(n:Int))) _ _ _ H3 vY (by simp[nI];omega) ⟨h1.1,fun x hx=>?_⟩).mono ?_
  ·exact h1.2 x i n b4 b5 H3 Dc Em
  rintro r A ⟨rfl,rfl⟩;have YM:((nI y.ch).any fun x=>decide (x<=(i:Int))||decide (x≥(n:Int)))=false:=by
   rw[List.any_eq_false];intro x hx;unfold nI at hx;rw[List.mem_map]at hx;obtain⟨k,hk,rfl⟩:=hx;have:=f4 k hk;have a1:¬((k:Int)<=(i:Int)):=by omega
   have a2:¬((k:Int)≥(n:Int)):=by omega
   rw[decide_eq_false a1,decide_eq_false a2];simp
  rw[ae];simp-implicitDefEqProofs only[go_sem,zS,↓reduceIte,Za,Zb,Zc,reduceCtorEq,ae,zU,zV,Zf,Zg,Zh,Zi,Zd,Ze,YM];exact K
 ·have d1:(((2:Nat):Int)==1)=false:=rfl;have d2:(((2:Nat):Int)==2)=true:=rfl;have e0:(((0:Nat):Int)==0)=true:=rfl;simp-implicitDefEqProofs only[go_sem,zS,↓reduceIte,Za,Zb,Zc,reduceCtorEq,ae,zU,zV,Zf,Zg,Zh,Zi,Zd,Ze,zF,c0,c1,c2,c3,l3,l4,s3,s4,d1,d2,e0,List.length_nil];exact K
 ·have d1:(((3:Nat):Int)==1)=false:=rfl;have d2:(((3:Nat):Int)==2)=false:=rfl;have d3:(((3:Nat):Int)==3)=true:=rfl;have e0:(((0:Nat):Int)==0)=true:=rfl;rw[f3,List.length_nil]at l3;simp-implicitDefEqProofs only[go_sem,zS,↓reduceIte,Za,Zb,Zc,reduceCtorEq,ae,zU,zV,Zf,Zg,Zh,Zi,Zd,Ze,zF,c0,c1,c2,c3,l3,l4,s3,s4,f1,f2,d1,d2,d3,e0];exact K
structure GO (L:List eC):Prop where
 ne:L≠[]
 fm:∀i<L.length,zO i L.length (L.getD i bX)
 cnt:∀i,(L.flatMap eC.ch).count i=if 0<i/\i<L.length then 1 else 0
theorem iC.tree (h:iC p fx L σ):GO L:=⟨h.ne,fun i hi=>(h.ok i hi).form,h.cnt⟩
def jY (n:Nat) (c:List Nat):List Int:=(List.range n).map fun i=>((c.count i:Nat):Int)
theorem p9 (n:Nat) (c:List Nat):(jY n c).length=n:=by simp[jY]
theorem BT (c:List Nat) (h:i<n):(jY n c).getD i 0=((c.count i:Nat):Int):=by simp[jY,List.getD_eq_getElem?_getD,h]
theorem Dx (c:List Nat) {k:Nat} (h:k<n):(jY n c).set k (((c.count k:Nat):Int)+1)=jY n (c++[k]):=by
 refine List.ext_getElem (by simp[jY]) fun i h1 h2=>?_;have hi:i<n:=by simpa[jY]using h2
 rw[List.getElem_set];simp only[jY,List.getElem_map,List.getElem_range,List.count_append,List.count_cons,List.count_nil,Nat.zero_add,beq_iff_eq]
 by_cases e:k=i
 ·subst e;simp
 ·rw[if_neg e,if_neg e];simp
theorem zP {nl:List vv} (h:bo jC 4 H rv nl) (hi:i<nl.length):∃b o c,rv=.slice (some ⟨b,o,none⟩) nl.length c/\Mg.aR H ⟨b,o+i*4,none⟩ 4=some (jC (nl.getD i zy)).toArray:=by
 obtain⟨b,o,c,e,_,h4⟩:=h.elem uH hi;refine⟨b,o,c,e,?_⟩;rw[h4,List.getD_eq_getElem?_getD,List.getElem?_eq_getElem hi];rfl
def mN (P:Program) (k:FuncId):Prop:=∀(L:List eC) (rv:Value) (H:Hp),uT H rv L->GO L->an P k #[.agg #[rv]] H fun r H'=>r=.tuple #[.int .i64 0,.bool true]/\af (fun _=>False) H H'
theorem GP (hk:aq P k (uR ι) uS 1) (hf:mM P (ι.f 433)):mN P k:=by
 intro L rv H hR hT;refine qI fun Q hQ=>?_;refine ah hk (args:=[_]) (by simp) ?_;unfold uR uS kA kB kF kC kD ke kG kH kI kK kJ kL kM kN kO kR kS kT kU kV kc kd kf kg kY kZ;have YN:=hR.few;simp-implicitDefEqProofs only[go_sem,zS,↓reduceIte,Za,Zb,Zc,reduceCtorEq,zU,zV,Zf,Zg,Zh,Zi,Zd,Ze,zF];refine ay fun H1 b1 e1 z1 B1 K1=>?_;have eB:Bl H1 b1 [rv]:=B1;obtain⟨nl,GQ,vu,hnd⟩:=(hR.aj K1).nd;have c0:cell H1 ⟨b1,0,none⟩=some rv:=by rw[eB.cell];rfl
 have hsl:=GQ.ax;have Fw:aP rv=L.length:=by rw[GQ.len,vu]
 simp-implicitDefEqProofs only[go_sem,zS,↓reduceIte,Za,Zb,Zc,reduceCtorEq,zU,zV,Zf,Zg,Zh,Zi,Zd,Ze,zF,c0,hsl,Fw];refine aO L.length [21,6,5,29,2,3,20] rfl rfl (by omega) (by simp-implicitDefEqProofs only[go_sem,zS,↓reduceIte,Za,Zb,Zc,reduceCtorEq,ae,zU,zV,Zf,Zg,Zh,Zi,Zd,Ze]) (by simp-implicitDefEqProofs only[go_sem,zS,↓reduceIte,Za,Zb,Zc,reduceCtorEq,ae,zU,zV,Zf,Zg,Zh,Zi,Zd,Ze]) (fun i g A=>af (fun _=>False) H1 A) (af.refl _ _) ?_ ?_
 ·rintro i g A hi gi gn KA;simp-implicitDefEqProofs only[go_sem,zS,↓reduceIte,Za,Zb,Zc,reduceCtorEq,ae,zU,zV,Zf,Zg,Zh,Zi,Zd,Ze]at gi gn;obtain⟨b,o,c,e,hld⟩:=zP (GQ.aj KA) (i:=i) (by omega);have hb:(0:Int)<=(i:Int)/\(i:Int)<(nl.length:Int):=by omega
  simp-implicitDefEqProofs only[go_sem,zS,↓reduceIte,Za,Zb,Zc,reduceCtorEq,zU,zV,Zf,Zg,Zh,Zi,Zd,Ze,zF,gi,e,ai,hb,hld,aB];refine fR (jC (nl.getD i zy)) (.int .i64 (i:Int)) rfl (by simp-implicitDefEqProofs only[go_sem,zS,↓reduceIte,Za,Zb,Zc,reduceCtorEq,ae,zU,zV,Zf,Zg,Zh,Zi,Zd,Ze]) (by simp-implicitDefEqProofs only[go_sem,zS,↓reduceIte,Za,Zb,Zc,reduceCtorEq,ae,zU,zV,Zf,Zg,Zh,Zi,Zd,Ze]) rfl rfl (List.all_eq_true.2 (nX _)) fun A1 b6 e6 z6 B6 K6=>?_;simp-implicitDefEqProofs only[go_sem,zS,↓reduceIte,Za,Zb,Zc,reduceCtorEq,zU,zV,Zf,Zg,Zh,Zi,Zd,Ze,zF,B6.aI 4 rfl];refine(hf _ _ i L.length A1 (((hnd i hi).aj KA).aj K6) (hT.fm i hi)).mono ?_;rintro r A2 ⟨rfl,uI⟩;rw[ae];simp-implicitDefEqProofs only[go_sem,zS,↓reduceIte,Za,Zb,Zc,reduceCtorEq,ae,zU,zV,Zf,Zg,Zh,Zi,Zd,Ze];exact(KA.trans K6).trans uI
 ·rintro g A gi KA;have Q2:=KA.bl eB (by simp);have c0:cell A ⟨b1,0,none⟩=some rv:=by rw[Q2.cell];rfl
  simp-implicitDefEqProofs only[go_sem,zS,↓reduceIte,Za,Zb,Zc,reduceCtorEq,zU,zV,Zf,Zg,Zh,Zi,Zd,Ze,zF,c0,hsl,Fw];refine⟨⟨by omega,by omega,by unfold maxLen;omega⟩,?_⟩;refine aF fun A1 b7 e7 z7 B7 K7=>?_;have B7:Bl A1 b7 (iL (jY L.length [])):=by
   rw[cx,oF]at B7;have:List.replicate L.length (0:Int)=jY L.length []:=by
    refine List.ext_getElem (by simp[jY]) fun i h1 h2=>?_;simp[jY]
   rw[this]at B7;exact B7
  have KA1:=KA.trans K7;have YO:=K7.bl Q2 (by simp);have c01:cell A1 ⟨b1,0,none⟩=some rv:=by rw[YO.cell];rfl
  have hb7:H1.size<=b7:=by have:=KA.size;omega
  simp-implicitDefEqProofs only[go_sem,zS,↓reduceIte,Za,Zb,Zc,reduceCtorEq,zU,zV,Zf,Zg,Zh,Zi,Zd,Ze,zF,c01,hsl,Fw];have nW:∀q,(fun q=>q=b7) q->¬q<H1.size:=fun q e=>by have e:q=b7:=e;omega
  refine aO L.length [38,9,42,43,44,45,11,37] rfl rfl (by omega) (by simp-implicitDefEqProofs only[go_sem,zS,↓reduceIte,Za,Zb,Zc,reduceCtorEq,ae,zU,zV,Zf,Zg,Zh,Zi,Zd,Ze]) (by simp-implicitDefEqProofs only[go_sem,zS,↓reduceIte,Za,Zb,Zc,reduceCtorEq,ae,zU,zV,Zf,Zg,Zh,Zi,Zd,Ze]) (fun i g X=>Bl X b7 (iL (jY L.length ((L.take i).flatMap eC.ch)))/\af (fun q=>q=b7) A1 X) ⟨B7,af.refl _ _⟩ ?_ ?_
  ·rintro i g2 X hi gi gn ⟨BX,KX⟩;simp-implicitDefEqProofs only[go_sem,zS,↓reduceIte,Za,Zb,Zc,reduceCtorEq,ae,zU,zV,Zf,Zg,Zh,Zi,Zd,Ze]at gi gn;have ui:af (fun _=>False) H1 X:=KA1.trans' KX fun q hq e=>by omega
   obtain⟨b,o,c,e,hld⟩:=zP (GQ.aj ui) (i:=i) (by omega);have hb:(0:Int)<=(i:Int)/\(i:Int)<(nl.length:Int):=by omega
   have F5:=(hnd i hi).aj ui;have hfm:=hT.fm i hi;have hlt:∀k∈(L.getD i bX).ch,k<L.length:=fun k hk=>by
    rcases hfm with⟨_,_,_,f4⟩|f|⟨_,_,f3⟩
    ·exact(f4 k hk).2
    ·rw[f]at hk;cases hk
    ·rw[f3]at hk;cases hk
   have wG:(L.take (i+1)).flatMap eC.ch=(L.take i).flatMap eC.ch++(L.getD i bX).ch:=by
    rw[List.take_succ_eq_append_getElem hi,List.flatMap_append,List.getD_eq_getElem?_getD,List.getElem?_eq_getElem hi];simp
   obtain⟨pre,hpre⟩:∃pre,pre=(L.take i).flatMap eC.ch:=⟨_,rfl⟩
   rw[<-hpre]at BX wG;obtain⟨x,hx⟩:∃x,x=nl.getD i zy:=⟨_,rfl⟩
   have hold:∀q,aU (mJ (nl.getD i zy).2.2.1) q->q<H1.size:=fun q hq=>(hnd i hi).ch.bM hq;rw[<-hx]at F5 hld hold;obtain⟨y,hy⟩:∃y,y=L.getD i bX:=⟨_,rfl⟩
   rw[<-hy]at F5 hlt wG;obtain⟨x1,x2,x3,x4⟩:=x;have vY:=F5.ch;simp only at vY;simp-implicitDefEqProofs only[go_sem,zS,↓reduceIte,Za,Zb,Zc,reduceCtorEq,zU,zV,Zf,Zg,Zh,Zi,Zd,Ze,zF,gi,e,ai,hb,hld,aB];refine bB (jC (x1,x2,x3,x4)) (by simp-implicitDefEqProofs only[go_sem,zS,↓reduceIte,Za,Zb,Zc,reduceCtorEq,ae,zU,zV,Zf,Zg,Zh,Zi,Zd,Ze]) rfl rfl (List.all_eq_true.2 (nX _)) fun X1 b9 e9 z9 B9 K9=>?_;have c2:cell X1 ⟨b9,2,none⟩=some (mJ x3):=by rw[B9.cell];rfl
   have PI:=vY.ag K9 (by simp);have h3s:=PI.ax;have h3l:aP (mJ x3)=y.ch.length:=by rw[PI.len,bw]
   have BX1:=K9.bl BX (by simp);have aaD:y.ch.length<=4096:=by
    rcases hfm with⟨_,_,f3,f4⟩|f|⟨_,_,f3⟩
    ·rw[hy];exact f3
    ·rw[hy,f];exact Nat.zero_le _
    ·rw[hy,f3];exact Nat.zero_le _
   have hb9:b9≠b7:=by have:=BX.lt;omega
   simp-implicitDefEqProofs only[go_sem,zS,↓reduceIte,Za,Zb,Zc,reduceCtorEq,zU,zV,Zf,Zg,Zh,Zi,Zd,Ze,zF,c2,h3s,h3l];refine aO y.ch.length [45,11,44] rfl rfl (by omega) (by simp-implicitDefEqProofs only[go_sem,zS,↓reduceIte,Za,Zb,Zc,reduceCtorEq,ae,zU,zV,Zf,Zg,Zh,Zi,Zd,Ze]) (by simp-implicitDefEqProofs only[go_sem,zS,↓reduceIte,Za,Zb,Zc,reduceCtorEq,ae,zU,zV,Zf,Zg,Zh,Zi,Zd,Ze]) (fun j g Y=>Bl Y b7 (iL (jY L.length (pre++y.ch.take j)))/\af (fun q=>q=b7) X1 Y) ⟨by rw[List.take_zero,List.append_nil];exact BX1,af.refl _ _⟩ ?_ ?_
   ·rintro j g3 Y hj gj gm ⟨BY,KY⟩;simp-implicitDefEqProofs only[go_sem,zS,↓reduceIte,Za,Zb,Zc,reduceCtorEq,ae,zU,zV,Zf,Zg,Zh,Zi,Zd,Ze]at gj gm;have QY:y.ch[j]∈y.ch:=List.getElem_mem _;have hkl:=hlt _ QY;have hjs:(y.ch.take (j+1))=y.ch.take j++[y.ch[j]]:=List.take_succ_eq_append_getElem hj;obtain⟨bc,oc,cc,ec,UM⟩:=(PI.ag KY fun q hq e=>by have e:q=b7:=e;rw[e]at hq;have:=hold _ hq;omega).nat hj;have YP:(0:Int)<=(j:Int)/\(j:Int)<(y.ch.length:Int):=by omega
    generalize y.ch[j]=k at*;have Rj:(0:Int)<=(k:Int)/\(k:Int)<(L.length:Int):=by omega
    have cv:=BT (n:=L.length) (pre++y.ch.take j) hkl;have cs:=Dx (pre++y.ch.take j) hkl;have cle:(pre++y.ch.take j).count k<=1:=by
     have hc:=hT.cnt k;have e1:L.flatMap eC.ch=(pre++y.ch)++(L.drop (i+1)).flatMap eC.ch:=by rw[<-wG,<-List.flatMap_append,List.take_append_drop]
     rw[e1,List.count_append,List.count_append]at hc;have:=(List.take_sublist j y.ch).count_le k;rw[List.count_append]
     split at hc<;>omega
    obtain⟨cur,Tk⟩:∃cur,cur=pre++y.ch.take j:=⟨_,rfl⟩
    rw[<-Tk]at BY cv cs cle;have ck:cell Y ⟨b7,k,none⟩=some (.int .i64 ((cur.count k:Nat):Int)):=by
     rw[BY.cell,bW _ _ (by rw[p9];exact hkl),cv]
    have tk:=BY.bk (o:=k) (by rw[ak,p9];exact hkl);have w1:IntKind.i64.wrap (((cur.count k:Nat):Int)+1)=((cur.count k:Nat):Int)+1:=IntWalk.i64_in _ (by omega);have BY2:=BY.al k (.int .i64 (((cur.count k:Nat):Int)+1));rw[fU,cs]at BY2;have KS:af (fun q=>q=b7) Y (al Y ⟨b7,k,none⟩ (.int .i64 (((cur.count k:Nat):Int)+1))):=(af.refl _ _).al _ (.inl rfl);simp-implicitDefEqProofs only[go_sem,zS,↓reduceIte,Za,Zb,Zc,reduceCtorEq,zU,zV,Zf,Zg,Zh,Zi,Zd,Ze,zF,gj,ec,UM,YP,Rj,ai,Nat.mul_one,Nat.zero_add,ck,w1,tk];rw[ae];simp-implicitDefEqProofs only[go_sem,zS,↓reduceIte,Za,Zb,Zc,reduceCtorEq,ae,zU,zV,Zf,Zg,Zh,Zi,Zd,Ze];exact⟨by rw[hjs,<-List.append_assoc,<-Tk];exact BY2,KY.trans KS⟩
   ·rintro g3 Y gj ⟨BY,KY⟩;rw[List.take_length]at BY;simp-implicitDefEqProofs only[go_sem,zS,↓reduceIte,Za,Zb,Zc,reduceCtorEq,zU,zV,Zf,Zg,Zh,Zi,Zd,Ze,zF];exact⟨by rw[wG];exact BY,(KX.trans K9.any).trans KY⟩
  ·rintro g2 X gi ⟨BX,KX⟩;rw[List.take_length]at BX;have K0X:af (fun _=>False) H X:=(K1.trans KA1).trans' KX fun q hq e=>by have:=K1.size;omega
   simp-implicitDefEqProofs only[go_sem,zS,↓reduceIte,Za,Zb,Zc,reduceCtorEq,zU,zV,Zf,Zg,Zh,Zi,Zd,Ze,zF];refine aO L.length [59,12,13,76,2,3,58] rfl rfl (by omega) (by simp-implicitDefEqProofs only[go_sem,zS,↓reduceIte,Za,Zb,Zc,reduceCtorEq,ae,zU,zV,Zf,Zg,Zh,Zi,Zd,Ze]) (by simp-implicitDefEqProofs only[go_sem,zS,↓reduceIte,Za,Zb,Zc,reduceCtorEq,ae,zU,zV,Zf,Zg,Zh,Zi,Zd,Ze]) (fun j g Y=>Y=X) rfl ?_ ?_
   ·rintro j g3 Y hj gj gm rfl;simp-implicitDefEqProofs only[go_sem,zS,↓reduceIte,Za,Zb,Zc,reduceCtorEq,ae,zU,zV,Zf,Zg,Zh,Zi,Zd,Ze]at gj gm;have hc:=hT.cnt j;have ck:cell Y ⟨b7,j,none⟩=some (.int .i64 (((L.flatMap eC.ch).count j:Nat):Int)):=by
     rw[BX.cell,bW _ _ (by rw[p9];exact hj),BT _ hj]
    have hb:(0:Int)<=(j:Int)/\(j:Int)<(L.length:Int):=by omega
    by_cases h0:0<j
    ·rw[if_pos ⟨h0,hj⟩]at hc;rw[hc]at ck;have d1:decide ((j:Int)>0)=true:=decide_eq_true (by omega);have d2:((j:Int)==0)=false:=beq_eq_false_iff_ne.2 (by omega);have d3:((((1:Nat):Int))!=1)=false:=rfl;simp-implicitDefEqProofs only[go_sem,zS,↓reduceIte,Za,Zb,Zc,reduceCtorEq,ae,zU,zV,Zf,Zg,Zh,Zi,Zd,Ze,zF,gj,hb,ai,ck,d1,d2,d3]
    ·rw[if_neg (fun h=>h0 h.1)]at hc;rw[hc]at ck;have YQ:j=0:=by omega
     subst YQ;have d1:decide ((0:Int)>0)=false:=by decide
     have d2:((0:Int)==0)=true:=rfl;have d3:((0:Int)!=0)=false:=rfl;have hb2:(0:Int)<(L.length:Int):=by omega
     have tz:Int.toNat 0=0:=rfl;simp-implicitDefEqProofs only[go_sem,zS,↓reduceIte,Za,Zb,Zc,reduceCtorEq,ae,zU,zV,Zf,Zg,Zh,Zi,Zd,Ze,zF,gj,hb2,tz,ai,ck,d1,d2,d3,Int.natCast_zero,Int.cast_ofNat_Int]
   ·rintro g3 Y gj rfl;have Jq:0<L.length:=by have:=hT.ne;cases L with|nil=>exact absurd rfl this|cons a l=>simp
    have d1:decide ((L.length:Int)>0)=true:=decide_eq_true (by omega);simp-implicitDefEqProofs only[go_sem,zS,↓reduceIte,Za,Zb,Zc,reduceCtorEq,ae,zU,zV,Zf,Zg,Zh,Zi,Zd,Ze,zF,d1];rw[hQ];exact⟨rfl,K0X⟩
end Go.Mg
namespace Go.Mg
open Go Go.RowKit
def zQ (ι:aJ):S:=
 kY [kR 3 (ι.t 194) 1,kC 4 (.int .i64 0)] (.seq (kY [kA 6 0,kV 7 (.m (.lenl (.t 6))),kC 8 (.int .i64 0)] (.blk 0 (.loop (kY [kH 9 8 7] (.seq (.ite (.v 9) .skip (.exit 0)) (.seq (.blk 1 (kY [kA 10 8,kB 5 10] (kY [kM 11 2 3,kA 12 0,kA 13 5,kI 14 2 12 13,kN 15 2 14,kV 16 (.m (.eqa false .i64 2 (.t 11) (.t 15)))] (.ite (.v 16) (kY [kA 17 5,kB 4 17] .ret) .skip)))) (.reg [ke 18 8,kB 8 18]))))))) (kY [kC 4 (.int .i64 (-1))] .ret))
def zR:List RV:=[.t 4]
def zT (ι:aJ):S:=
 kY [kR 3 (ι.t 194) 1,kC 4 (.bool false)] (kY [kA 5 0,kM 6 2 3,kc 7 (kg (ι.f 226) [.t 5,.t 6]),kU 8 (.cm .geq .i64 (.t 7) (.c (.int .i64 0))),kB 4 8] .ret)
def zW:List RV:=[.t 4]
def uU (ι:aJ):S:=
 kY [kR 4 (ι.t 358) 0,kR 5 (ι.t 368) 1,kC 8 (.bool false)] (.seq (kY [kG 12 1 5,kD 13 12,kU 14 (.cm .lss .i64 (.t 13) (.c (.int .i64 0))),kF 15 14,kT 16 15 false (.fa 1 (.v 5)),kT 17 15 false (.ld (.t 16)),kS 18 15 false 2,kT 19 15 false (.m (.lenl (.t 18))),kT 20 15 false (.cm .geq .i64 (.t 17) (.t 19)),kU 21 (.pick (.t 15) (.c (.bool true)) (.t 20)),kF 22 21,kS 23 22 false 2,kT 24 22 false (.fa 1 (.v 5)),kT 25 22 false (.ld (.t 24)),kT 26 22 false (.is 1 (.t 23) (.t 25)),kT 27 22 false (.ld (.t 26)),kT 28 22 false (.cm .neq .i64 (.t 27) (.c (.int .i64 0))),kV 29 (.pick (.t 22) (.c (.bool true)) (.t 28))] (.ite (.v 29) (kY [kC 8 (.bool false)] .ret) .skip)) (kY [kG 30 0 4,kD 31 30,kG 32 1 5,kD 33 32,kI 34 1 31 33,kN 35 1 34,kc 36 (kg (ι.f 139) [.t 35]),kB 9 36] (.seq (kY [kA 37 9,kL 38 37,kG 39 2 5,kD 40 39,kL 41 40,kV 42 (.cm .neq .i64 (.t 38) (.t 41))] (.ite (.v 42) (kY [kC 8 (.bool false)] .ret) .skip)) (.seq (kY [kG 43 2 5,kV 44 (.ld (.t 43)),kO 45 44,kC 46 (.int .i64 0)] (.blk 0 (.loop (kY [kH 47 46 45] (.seq (.ite (.v 47) .skip (.exit 0)) (.seq (.blk 1 (kY [kA 48 46,kK 49 1 44 46,kD 50 49,kB 10 48,kB 11 50] (kY [kA 51 3,kA 52 11,kA 53 2,kc 54 (kg (ι.f 159) [.t 53]),kI 55 1 51 52,kf (.st (.t 55) (.t 54))] (.reg [kA 56 3,kA 57 11,kI 58 1 56 57,kD 59 58,kG 60 1 5,kD 61 60,kA 62 9,kA 63 10,kI 64 1 62 63,kD 65 64,kI 66 1 59 61,kf (.st (.t 66) (.t 65))])))) (.reg [ke 67 46,kB 46 67]))))))) (kY [kC 8 (.bool true)] .ret)))))
def uV:List RV:=[.t 8]
def uW (ι:aJ):S:=
 kY [kR 3 (ι.t 358) 0,kC 6 (.bool false)] (kY [kd 7 (.new (ι.t 128) #[kZ])] (.seq (kY [kV 12 (.mv (.v 1)),kO 13 12,kC 14 (.int .i64 0)] (.blk 0 (.loop (kY [kH 15 14 13] (.seq (.ite (.v 15) .skip (.exit 0)) (.seq (.blk 1 (kY [kA 16 14,kK 17 1 12 14,kD 18 17,kB 8 16,kB 9 18] (.seq (kY [kA 19 9,kU 20 (.cm .lss .i64 (.t 19) (.c (.int .i64 0))),kF 21 20,kS 22 21 false 9,kS 23 21 false 2,kT 24 21 false (.m (.lenl (.t 23))),kT 25 21 false (.cm .geq .i64 (.t 22) (.t 24)),kU 26 (.pick (.t 21) (.c (.bool true)) (.t 25)),kF 27 26,kS 28 27 false 2,kS 29 27 false 9,kT 30 27 false (.is 1 (.t 28) (.t 29)),kT 31 27 false (.ld (.t 30)),kT 32 27 false (.cm .neq .i64 (.t 31) (.c (.int .i64 0))),kV 33 (.pick (.t 27) (.c (.bool true)) (.t 32))] (.ite (.v 33) (kY [kC 6 (.bool false)] .ret) .skip)) (kY [kM 34 1 7,kG 35 0 3,kD 36 35,kA 37 9,kI 38 1 36 37,kN 39 1 38,kc 40 (kg (ι.f 132) [.t 34,.t 39]),kf (.stn 1 (.v 7) (.t 40))] (kY [kA 41 1,kA 42 8,kV 43 (.m (.sls 1 (.t 41) .none (.some (.t 42)))),kO 44 43,kC 45 (.int .i64 0)] (.blk 2 (.loop (kY [kH 46 45 44] (.seq (.ite (.v 46) .skip (.exit 2)) (.seq (.blk 3 (kY [kK 47 1 43 45,kD 48 47,kB 11 48] (kY [kA 49 11,kA 50 9,kU 51 (.cm .eql .i64 (.t 49) (.t 50)),kF 52 51,kT 53 52 false (.fa 1 (.v 3)),kT 54 52 false (.ld (.t 53)),kS 55 52 false 11,kS 56 52 false 9,kT 57 52 false (.m (.jA #[.int .i64 0,.int .i64 0] [(0,(1,.t 55)),(1,(1,.t 56))])),.ge (.t 58) (.t 52) false (kg (ι.f 227) [.t 54,.t 57]),kT 59 52 false (.not (.t 58)),kT 60 52 false (.mv (.t 59)),kT 61 60 true (.fa 1 (.v 3)),kT 62 60 true (.ld (.t 61)),kS 63 60 true 9,kS 64 60 true 11,kT 65 60 true (.m (.jA #[.int .i64 0,.int .i64 0] [(0,(1,.t 63)),(1,(1,.t 64))])),.ge (.t 66) (.t 60) true (kg (ι.f 227) [.t 62,.t 65]),kT 67 60 true (.not (.t 66)),kT 68 52 false (.pick (.t 60) (.t 67) (.c (.bool false))),kV 69 (.pick (.t 52) (.c (.bool true)) (.t 68))] (.ite (.v 69) (kY [kC 6 (.bool false)] .ret) .skip)))) (.reg [ke 70 45,kB 45 70]))))))))))) (.reg [ke 71 14,kB 14 71]))))))) (kY [kM 72 1 7,kc 73 (kg (ι.f 135) [.t 72]),kA 74 1,kL 75 74,kU 76 (.cm .lss .i64 (.t 73) (.t 75)),kB 6 76] .ret)))
def uX:List RV:=[.t 6]
def xr (x:gR) (l:List gR):Int:=match l.findIdx? (fun u=>decide (u=x))with|none=>-1|some i=>(i:Int)
theorem Dy (x:gR) (l:List gR):decide (xr x l≥0)=decide (x∈l):=by
 unfold xr
 cases h:l.findIdx? (fun u=>decide (u=x))with
 |none=>
  rw[List.findIdx?_eq_none_iff]at h;have:x∉l:=fun hm=>by have:=h x hm;simp at this
  rw[decide_eq_false this];rfl
 |some i=>
  obtain⟨hi,h1,_⟩:=List.findIdx?_eq_some_iff_getElem.1 h;have:x∈l:=by have e:=of_decide_eq_true h1;rw[<-e];exact List.getElem_mem _
  rw[decide_eq_true this];exact decide_eq_true (by show(i:Int)≥0;omega)
def rS (P:Program) (k:FuncId):Prop:=∀(l:List gR) (v:Value) (x:gR) (H:Hp),sN H v l->l.length<=1000000->an P k #[v,.agg #[.int .i64 x.1,.int .i64 x.2]] H fun r H'=>r=.int .i64 (xr x l)/\af (fun _=>False) H H'
theorem Tl (x b:gR):([x.1,x.2]==[b.1,b.2])=decide (b=x):=by
 obtain⟨x1,x2⟩:=x;obtain⟨b1,b2⟩:=b;rw[Bool.eq_iff_iff];simp;omega
variable {P:Program} {ι:aJ} {k:FuncId}
theorem GR (hk:aq P k (zQ ι) zR 2):rS P k:=by
 intro l v x H hv JQ;refine ah hk (args:=[_,_]) (by simp) ?_;unfold zQ zR kA kB kC ke kH kI kM kN kR kV kY;simp-implicitDefEqProofs only[go_sem,zS,↓reduceIte,Za,Zb,Zc,reduceCtorEq,zU,zV,Zf,Zg,Zh,Zi,Zd,Ze,zF,aN];refine ay fun H1 b1 e1 z1 B1 K1=>?_;have hv1:=hv.aj K1;simp-implicitDefEqProofs only[go_sem,zS,↓reduceIte,Za,Zb,Zc,reduceCtorEq,zU,zV,Zf,Zg,Zh,Zi,Zd,Ze,hv.ax,hv.len];have hb1:aR H1 ⟨b1,0,none⟩ 2=some #[.int .i64 x.1,.int .i64 x.2]:=B1.aI 2 rfl;refine aO l.length [9,5,16,4,8] rfl rfl (by omega) (by simp-implicitDefEqProofs only[go_sem,zS,↓reduceIte,Za,Zb,Zc,reduceCtorEq,ae,zU,zV,Zf,Zg,Zh,Zi,Zd,Ze]) (by simp-implicitDefEqProofs only[go_sem,zS,↓reduceIte,Za,Zb,Zc,reduceCtorEq,ae,zU,zV,Zf,Zg,Zh,Zi,Zd,Ze]) (fun i g A=>(∀j<i,∀hj:j<l.length,l[j]≠x)/\A=H1) ⟨fun j h=>by omega,rfl⟩ ?_ ?_
 ·rintro i f A hi gi gn ⟨hno,rfl⟩;simp-implicitDefEqProofs only[go_sem,zS,↓reduceIte,Za,Zb,Zc,reduceCtorEq,ae,zU,zV,Zf,Zg,Zh,Zi,Zd,Ze]at gi gn;obtain⟨pb,po,pc,rfl,MC,hld⟩:=hv1.elem oG hi;have iF:aR A ⟨pb,po+i*2,none⟩ 2=some #[.int .i64 l[i].1,.int .i64 l[i].2]:=hld;have jS:(∀y∈(#[Value.int .i64 x.1,Value.int .i64 x.2]:Array Value),fB .i64 y)/\∀y∈(#[Value.int .i64 l[i].1,Value.int .i64 l[i].2]:Array Value),fB .i64 y:=⟨by simp[fB],by simp[fB]⟩
  have hb:(0:Int)<=(i:Int)/\(i:Int)<(l.length:Int):=by omega
  have e:=Tl x l[i]
  by_cases h:l[i]=x
  ·rw[decide_eq_true h]at e;have hr:l.findIdx? (fun u=>decide (u=x))=some i:=List.findIdx?_eq_some_iff_getElem.2 ⟨hi,decide_eq_true h,fun j hj=>by simpa using hno j hj (by omega)⟩;simp-implicitDefEqProofs only[go_sem,zS,↓reduceIte,Za,Zb,Zc,reduceCtorEq,ae,zU,zV,Zf,Zg,Zh,Zi,Zd,Ze,zF,gi,hb,ai,aB,iF,hb1,e,xr,hr];exact⟨jS,K1⟩
  ·rw[decide_eq_false h]at e;simp-implicitDefEqProofs only[go_sem,zS,↓reduceIte,Za,Zb,Zc,reduceCtorEq,ae,zU,zV,Zf,Zg,Zh,Zi,Zd,Ze,zF,gi,hb,ai,aB,iF,hb1,e];refine⟨jS,fun j hj sQ=>?_⟩
   by_cases e2:j=i
   ·subst e2;exact h
   ·exact hno j (by omega) sQ
 ·rintro f A -⟨hno,rfl⟩;have hr:l.findIdx? (fun u=>decide (u=x))=none:=List.findIdx?_eq_none_iff.2 fun y hy=>by
   obtain⟨j,hj,rfl⟩:=List.getElem_of_mem hy;simpa using hno j hj hj
  simp-implicitDefEqProofs only[go_sem,zS,↓reduceIte,Za,Zb,Zc,reduceCtorEq,ae,zU,zV,Zf,Zg,Zh,Zi,Zd,Ze,zF,xr,hr];exact K1
def mP (P:Program) (k:FuncId):Prop:=∀(l:List gR) (v:Value) (x:gR) (H:Hp),sN H v l->l.length<=1000000->an P k #[v,.agg #[.int .i64 x.1,.int .i64 x.2]] H fun r H'=>r=.bool (decide (x∈l))/\af (fun _=>False) H H'
theorem GS (hk:aq P k (zT ι) zW 2) (hi:rS P (ι.f 226)):mP P k:=by
 intro l v x H hv JQ;refine ah hk (args:=[_,_]) (by simp) ?_;unfold zT zW kA kB kC kM kR kU kc kg kY;simp-implicitDefEqProofs only[go_sem,zS,↓reduceIte,Za,Zb,Zc,reduceCtorEq,zU,zV,Zf,Zg,Zh,Zi,Zd,Ze,zF,aN];refine ay fun H1 b1 e1 z1 B1 K1=>?_;have hb1:aR H1 ⟨b1,0,none⟩ 2=some #[.int .i64 x.1,.int .i64 x.2]:=B1.aI 2 rfl;simp-implicitDefEqProofs only[go_sem,zS,↓reduceIte,Za,Zb,Zc,reduceCtorEq,zU,zV,Zf,Zg,Zh,Zi,Zd,Ze,aB,hb1];refine(hi l v x H1 (hv.aj K1) JQ).mono ?_;rintro r H2 ⟨rfl,K2⟩;rw[ae];simp-implicitDefEqProofs only[go_sem,zS,↓reduceIte,Za,Zb,Zc,reduceCtorEq,ae,zU,zV,Zf,Zg,Zh,Zi,Zd,Ze,Dy];exact K1.trans K2
structure YR (P:Program) (ι:aJ):Prop where
 lis:gC P ι (ι.f 139)
 cln:dA P (ι.f 159)
def qd (P:Program) (ι:aJ) (k:FuncId):Prop:=∀(p:eX) (fx s:List Int) (x:vv) (y:eC) (σ:Nat->List Int) (pv sv:Value) (ws:List Value) (sb:Nat) (H0 H:Hp),br ι H0->dE H0 pv p fx->cD p->PH H0 x y->af (fun _=>False) H0 H->H0.size<=sb->aG H sv (iL s)->(∀q,aU sv q->q≠sb)->s.length=p.el.length→
 Bl H sb ws->y.st<s.length->s.getD y.st 0=0->y.ch.length=(aD (bS p y.st)).length->(∀j<y.ch.length,y.ch.getD j 0<ws.length/\σ (y.ch.getD j 0)=s.set y.st (((aD (bS p y.st)).getD j 0:Nat):Int))→
 an P k #[pv,.agg (jC x).toArray,sv,.slice (some ⟨sb,0,none⟩) ws.length ws.length] H fun r H'=>r=.bool true/\∃rT,rT.length=ws.length/\Bl H' sb rT/\af (fun q=>q=sb) H H'/\(∀j,j∉y.ch->rT.getD j undef=ws.getD j undef)/\∀c∈y.ch,aG H' (rT.getD c undef) (iL (σ c))/\∀q,aU (rT.getD c undef) q->q≠sb
theorem GU (hk:aq P k (uU ι) uV 4) (c:YR P ι):qd P ι k:=by
 intro p fx s x y σ pv sv ws sb H0 H hT hP hG hx K0 AM hs hsn hsl hB h1 h2 h3 h4;refine qI fun Q hQ=>?_;refine ah hk (args:=[_,_,_,_]) (by simp) ?_;unfold uU uV kA kB kF kC kD ke kG kH kI kK kL kN kO kR kS kT kU kV kc kf kg kY;obtain⟨el,di,sa,mo,fv,vs,ms,rfl,hp⟩:=hP;obtain⟨x1,x2,x3,x4⟩:=x;obtain⟨Bx,hst,vY,hsp⟩:=hx;simp only at Bx hst vY hsp;subst Bx hst;have hgn:=hG.n;simp-implicitDefEqProofs only[go_sem,zS,↓reduceIte,Za,Zb,Zc,reduceCtorEq,zU,zV,Zf,Zg,Zh,Zi,Zd,Ze,zF,jC];refine ay fun H1 b4 e4 z4 B4 K4=>?_;simp-implicitDefEqProofs only[go_sem,zS,↓reduceIte,Za,Zb,Zc,reduceCtorEq,zU,zV,Zf,Zg,Zh,Zi,Zd,Ze,zF];refine ay fun H2 b5 e5 z5 B5 K5=>?_;have Dc:Bl H2 b4 [el,di,sa,mo,fv]:=K5.bl B4 (by simp);have Em:Bl H2 b5 [.int .u8 (y.kd:Int),.int .i64 (y.st:Int),mJ x3,mJ x4]:=B5;have fy:=(K0.trans K4).trans K5;have hs2:=(hs.ag K4 (by simp)).ag K5 (by simp);have c1:cell H2 ⟨b5,1,none⟩=some (.int .i64 (y.st:Int)):=by rw[Em.cell];rfl
 have c2:cell H2 ⟨b5,2,none⟩=some (mJ x3):=by rw[Em.cell];rfl
 have c0:cell H2 ⟨b4,0,none⟩=some el:=by rw[Dc.cell];rfl
 have Tm:=hs2.ax;have KC:aP sv=s.length:=by rw[hs2.len,ak]
 obtain⟨bs,os,cs,esv,En⟩:=hs2.Pm h1;have pg:s[y.st]=0:=by rw[List.getD_eq_getElem?_getD,List.getElem?_eq_getElem h1]at h2;exact h2
 rw[pg]at En;have d1:decide ((y.st:Int)<0)=false:=decide_eq_false (by omega);have d2:decide ((y.st:Int)≥(s.length:Int))=false:=decide_eq_false (by omega);have d3:((0:Int)!=0)=false:=rfl;have Tn:(0:Int)<=(y.st:Int)/\(y.st:Int)<(s.length:Int):=by omega
 have OE:=hp.aj fy;have hvl:=hp.el;obtain⟨eb,eo,ec,e,hld⟩:=OE.e.ld1 (i:=y.st) (by omega);have hS:=OE.es y.st (by omega);have PJ:(0:Int)<=(y.st:Int)/\(y.st:Int)<(vs.length:Int):=by omega
 simp-implicitDefEqProofs only[go_sem,zS,↓reduceIte,Za,Zb,Zc,reduceCtorEq,zU,zV,Zf,Zg,Zh,Zi,Zd,Ze,zF,c1,c2,c0,Tm,KC,esv,d1,d2,d3,Tn,ai,En,e,PJ,hld,aB];refine(c.lis _ _ H2 (hT.ag fy) hS).mono ?_;rintro lv H3 ⟨OL,ol,K3⟩;have yK:(cf (bS p y.st)).length=y.ch.length:=by simp[cf,h3]
 have vu:aP lv=y.ch.length:=by rw[OL.sl.len,yK]
 have YS:=OL.sl.ax;have YT:=K3.bl Em (by simp);have X9:cell H3 ⟨b5,1,none⟩=some (.int .i64 (y.st:Int)):=by rw[YT.cell];rfl
 have c23:cell H3 ⟨b5,2,none⟩=some (mJ x3):=by rw[YT.cell];rfl
 have ny:=fy.trans K3;have PK:=vY.ag ny (by simp);have YU:=PK.ax;have YV:aP (mJ x3)=y.ch.length:=by rw[PK.len,bw]
 have d4:(((y.ch.length:Nat):Int)!=((y.ch.length:Nat):Int))=false:=bne_self_eq_false _;have I9:=hs2.ag K3 (by simp);have BH3:=((K4.trans K5).trans K3).bl hB (by simp);have aaE:=hB.lt;have s4:=K4.size;have s5:=K5.size;have s3:=K3.size;have UT:y.ch.length<=4096:=by rw[h3,bR];exact dw _ _
 rw[esv]at I9 hsn Tm KC;rw[ae];simp-implicitDefEqProofs only[go_sem,zS,↓reduceIte,Za,Zb,Zc,reduceCtorEq,zU,zV,Zf,Zg,Zh,Zi,Zd,Ze,zF,X9,c23,YS,vu,YU,YV,d4];refine aO y.ch.length [47,10,11,46] rfl rfl (by omega) (by simp-implicitDefEqProofs only[go_sem,zS,↓reduceIte,Za,Zb,Zc,reduceCtorEq,ae,zU,zV,Zf,Zg,Zh,Zi,Zd,Ze]) (by simp-implicitDefEqProofs only[go_sem,zS,↓reduceIte,Za,Zb,Zc,reduceCtorEq,ae,zU,zV,Zf,Zg,Zh,Zi,Zd,Ze]) (fun i g A=>∃rT,rT.length=ws.length/\Bl A sb rT/\af (fun q=>q=sb) H3 A/\(∀j,j∉y.ch.take i->rT.getD j undef=ws.getD j undef)/\∀c∈y.ch.take i,aG A (rT.getD c undef) (iL (σ c))/\∀q,aU (rT.getD c undef) q->q≠sb) ?_ ?_ ?_
 ·exact⟨ws,rfl,BH3,af.refl _ _,fun _ _=>rfl,fun c hc=>by rw[List.take_zero]at hc;cases hc⟩
 ·rintro i g A hi gi gn ⟨rT,IB,BA,KA,hsame,hset⟩;simp-implicitDefEqProofs only[go_sem,zS,↓reduceIte,Za,Zb,Zc,reduceCtorEq,ae,zU,zV,Zf,Zg,Zh,Zi,Zd,Ze]at gi gn;have sA:=KA.size;have hcA:aG A (mJ x3) (iN y.ch):=PK.ag KA fun q hq e=>by
   have e:q=sb:=e;have h9:q<H0.size:=vY.bM hq;omega
  obtain⟨bc,oc,cc,ec2,UM⟩:=hcA.nat hi;obtain⟨hk4,Ep⟩:=h4 i hi;have hgk:y.ch.getD i 0=y.ch[i]:=by rw[List.getD_eq_getElem?_getD,List.getElem?_eq_getElem hi];rfl
  have sk:y.ch.take (i+1)=y.ch.take i++[y.ch[i]]:=List.take_succ_eq_append_getElem hi;rw[hgk]at hk4 Ep;have Vj:(0:Int)<=(i:Int)/\(i:Int)<(y.ch.length:Int):=by omega
  generalize y.ch[i]=k at*;have Rj:(0:Int)<=(k:Int)/\(k:Int)<(ws.length:Int):=by omega
  simp-implicitDefEqProofs only[go_sem,zS,↓reduceIte,Za,Zb,Zc,reduceCtorEq,zU,zV,Zf,Zg,Zh,Zi,Zd,Ze,zF,gi,ec2,Vj,UM,ai,Nat.mul_one];have YW:=I9.ag KA fun q hq e=>hsn q hq e;refine(c.cln s _ A YW (by omega)).mono ?_;rintro nv A1 ⟨O1,o1,K1⟩;have hne:iL s≠[]:=by intro e;have:=congrArg List.length e;rw[ak,List.length_nil]at this;omega
  obtain⟨bq,cq,Lq,rfl,q1,q2,qB,q3,q4⟩:=O1.some hne;have hbq:=o1 bq rfl;have MU:=K1.bl BA (by simp);have tk:=MU.bk (o:=k) (by omega);have Eo:=MU.al k (.slice (some ⟨bq,0,none⟩) (iL s).length cq);have K2:af (fun q=>q=sb) A1 (al A1 ⟨sb,k,none⟩ (.slice (some ⟨bq,0,none⟩) (iL s).length cq)):=(af.refl _ _).al _ (.inl rfl);have hnq:bq≠sb:=by omega
  rw[ae];simp-implicitDefEqProofs only[go_sem,zS,↓reduceIte,Za,Zb,Zc,reduceCtorEq,zU,zV,Zf,Zg,Zh,Zi,Zd,Ze,zF,Rj,ai,Nat.mul_one,Nat.zero_add,tk];rw[ae];generalize al A1 ⟨sb,k,none⟩ (.slice (some ⟨bq,0,none⟩) (iL s).length cq)=A2 at Eo K2⊢;have s1:=K1.size;have s2:=K2.size;have ck:cell A2 ⟨sb,k,none⟩=some (.slice (some ⟨bq,0,none⟩) (iL s).length cq):=by
   rw[Eo.cell,List.getElem?_set_self (by omega)]
  have qB2:=K2.bl qB hnq;have uI:af (fun q=>q=sb) H3 A2:=(KA.trans K1.any).trans K2;have SF:=uI.bl YT (by omega);have c12:cell A2 ⟨b5,1,none⟩=some (.int .i64 (y.st:Int)):=by rw[SF.cell];rfl
  have OL2:=OL.ag uI fun q hq e=>by have e:q=sb:=e;have:=ol q hq;omega
  obtain⟨bl,ol',cl,el2,-,hlc⟩:=OL2.sl.cells (by intro e;have:=congrArg List.length e;rw[yK,List.length_nil]at this;omega);have hlc:=hlc i (by omega);have hu:(cf (bS p y.st))[i]?=some (.int .i64 (((aD (bS p y.st)).getD i 0:Nat):Int)):=by
   unfold cf;rw[List.getElem?_map,List.getD_eq_getElem?_getD,List.getElem?_eq_getElem (show i<(aD (bS p y.st)).length by omega)];rfl
  rw[hu]at hlc;rw[yK]at el2;generalize(aD (bS p y.st)).getD i 0=u at*;rw[ak]at q1 ck;have tq:=qB2.bk (o:=y.st) (by omega);simp-implicitDefEqProofs only[go_sem,zS,↓reduceIte,Za,Zb,Zc,reduceCtorEq,zU,zV,Zf,Zg,Zh,Zi,Zd,Ze,zF,gi,Rj,ai,Nat.mul_one,Nat.zero_add,ck,c12,el2,Vj,hlc,Tn,tq];rw[ae];simp-implicitDefEqProofs only[go_sem,zS,↓reduceIte,Za,Zb,Zc,reduceCtorEq,ae,zU,zV,Zf,Zg,Zh,Zi,Zd,Ze];have qO:=EV qB2 (l:=iL s) (by rw[ak];exact q1) q2 q3 y.st (.int .i64 (u:Int)) (by rw[ak];exact h1);rw[fU,<-Ep,ak]at qO;have YX:af (fun q=>q=bq) A2 (al A2 ⟨bq,y.st,none⟩ (.int .i64 (u:Int))):=(af.refl _ _).al _ (.inl rfl);have aaF:(σ k).length=s.length:=by rw[Ep,List.length_set]
  refine⟨rT.set k (.slice (some ⟨bq,0,none⟩) s.length cq),by rw[List.length_set];exact IB,?_,uI.trans' YX fun q hq e=>by omega,fun j hj=>?_,fun c hc=>?_⟩
  ·have:=YX.bl Eo (fun e=>hnq e.symm)
   rwa [ak]at this
  ·rw[sk]at hj;have hjk:j≠k:=fun e=>hj (by rw[e];simp);rw[List.getD_eq_getElem?_getD,List.getElem?_set_ne (fun e=>hjk e.symm),<-List.getD_eq_getElem?_getD];exact hsame j fun h=>hj (List.mem_append_left _ h)
  ·by_cases hck:c=k
   ·subst hck;have e:(rT.set c (.slice (some ⟨bq,0,none⟩) s.length cq)).getD c undef=.slice (some ⟨bq,0,none⟩) s.length cq:=by
     rw[List.getD_eq_getElem?_getD,List.getElem?_set_self (by omega)];rfl
    rw[e];exact⟨qO.sl,fun q hq=>by have h:q=bq:=hq.1;omega⟩
   ·have jL:c∈y.ch.take i:=by
     rw[sk]at hc;rcases List.mem_append.1 hc with h|h
     ·exact h
     ·exact absurd (by simpa using h) hck
    have e:(rT.set k (.slice (some ⟨bq,0,none⟩) s.length cq)).getD c undef=rT.getD c undef:=by
     rw[List.getD_eq_getElem?_getD,List.getElem?_set_ne (fun e=>hck e.symm),<-List.getD_eq_getElem?_getD]
    rw[e];obtain⟨g1,g2⟩:=hset c jL;refine⟨(((g1.ag K1 (by simp)).ag K2 g2).ag YX fun q hq e=>?_),g2⟩;have:=g1.bM hq;omega
 ·rintro g A gi ⟨rT,IB,BA,KA,hsame,hset⟩;rw[List.take_length]at hsame hset;simp-implicitDefEqProofs only[go_sem,zS,↓reduceIte,Za,Zb,Zc,reduceCtorEq,ae,zU,zV,Zf,Zg,Zh,Zi,Zd,Ze];rw[hQ];exact⟨rfl,rT,IB,BA,((K4.trans K5).trans K3).any.trans KA,hsame,hset⟩
structure YY (P:Program) (ι:aJ):Prop where
 con:mP P (ι.f 227)
 or:nK P (ι.f 132)
 len:iV P (ι.f 135)
def mQ (P:Program) (k:FuncId):Prop:=∀(p:eX) (fx s:List Int) (d:List Nat) (pv dv sv:Value) (H:Hp),dE H pv p fx->cD p->aG H dv (iN d)->aG H sv (iL s)->s.length=p.el.length->BO p d s->d.length<=4096→
 an P k #[pv,dv,sv] H fun r H'=>r=.bool true/\af (fun _=>False) H H'
theorem GV (hk:aq P k (uW ι) uX 3) (c:YY P ι):mQ P k:=by
 intro p fx s d pv dv sv H hP hG hd hs hsl hh MF;refine qI fun Q hQ=>?_;refine ah hk (args:=[_,_,_]) (by simp) ?_;unfold uW uX kA kB kF kC kD ke kG kH kI kK kL kM kN kO kR kS kT kU kV kc kd kf kg kY kZ;obtain⟨el,di,sa,mo,fv,vs,ms,rfl,hp⟩:=hP;have hgn:=hG.n;have hvl:=hp.el;simp-implicitDefEqProofs only[go_sem,zS,↓reduceIte,Za,Zb,Zc,reduceCtorEq,zU,zV,Zf,Zg,Zh,Zi,Zd,Ze,zF];refine ay fun H1 b3 e3 z3 B3 K3=>?_;simp-implicitDefEqProofs only[go_sem,zS,↓reduceIte,Za,Zb,Zc,reduceCtorEq,zU,zV,Zf,Zg,Zh,Zi,Zd,Ze,zF];refine ay fun H2 b7 e7 z7 B7 K7=>?_;have nV:Bl H2 b3 [el,di,sa,mo,fv]:=K7.bl B3 (by simp);have Sp:Bl H2 b7 [.slice none 0 0]:=B7;have fy:=K3.trans K7;have hd2:=hd.ag fy (by simp);have hs2:=hs.ag fy (by simp);have OE:=hp.aj fy;have PL:=hd2.ax;have PN:aP dv=d.length:=by rw[hd2.len,bw]
 have YZ:=hs2.ax;have KC:aP sv=s.length:=by rw[hs2.len,ak]
 have s3:=K3.size;have s7:=K7.size;simp-implicitDefEqProofs only[go_sem,zS,↓reduceIte,Za,Zb,Zc,reduceCtorEq,zU,zV,Zf,Zg,Zh,Zi,Zd,Ze,zF,PL,PN];refine aO d.length [15,8,9,33,6,43,44,45,46,11,69,14] rfl rfl (by omega) (by simp-implicitDefEqProofs only[go_sem,zS,↓reduceIte,Za,Zb,Zc,reduceCtorEq,ae,zU,zV,Zf,Zg,Zh,Zi,Zd,Ze]) (by simp-implicitDefEqProofs only[go_sem,zS,↓reduceIte,Za,Zb,Zc,reduceCtorEq,ae,zU,zV,Zf,Zg,Zh,Zi,Zd,Ze]) (fun i g A=>∃v,Bl A b7 [v]/\aS A (.agg #[v]) (fun u=>(d.take i).any fun k=>bS p k u)/\(∀q,jP (.agg #[v]) q->q≠b7)/\af (fun q=>q=b7) H2 A) ?_ ?_ ?_
 ·refine⟨_,Sp,(aS.empty H2 none 0).congr fun n=>?_,fun q hq=>?_,af.refl _ _⟩
  ·rw[List.take_zero];rfl
  ·exact hq.elim
 ·rintro i g A hi gi gn ⟨w,BA,SA,hwb,KA⟩;simp-implicitDefEqProofs only[go_sem,zS,↓reduceIte,Za,Zb,Zc,reduceCtorEq,ae,zU,zV,Zf,Zg,Zh,Zi,Zd,Ze]at gi gn;have KE:af (fun _=>False) H A:=fy.trans' KA fun q hq e=>by omega
  have Y0:aG A dv (iN d):=hd.ag KE (by simp);have YW:aG A sv (iL s):=hs.ag KE (by simp);obtain⟨bd,od,cd,ed,hdc⟩:=Y0.nat hi;have QY:d[i]∈d:=List.getElem_mem _;obtain⟨Ea,QQ⟩:=hh.op _ QY;have hdf:=hh.df i d[i] (List.getElem?_eq_getElem hi);have sk:d.take (i+1)=d.take i++[d[i]]:=List.take_succ_eq_append_getElem hi;have Vj:(0:Int)<=(i:Int)/\(i:Int)<(d.length:Int):=by omega
  generalize d[i]=kk at*;obtain⟨bs,os,cs,es,hsc⟩:=YW.Pm Ea;have pg:s[kk]=0:=by rw[List.getD_eq_getElem?_getD,List.getElem?_eq_getElem Ea]at QQ;exact QQ
  rw[pg]at hsc;have d1:decide ((kk:Int)<0)=false:=decide_eq_false (by omega);have d2:decide ((kk:Int)≥(s.length:Int))=false:=decide_eq_false (by omega);have d3:((0:Int)!=0)=false:=rfl;have Rj:(0:Int)<=(kk:Int)/\(kk:Int)<(s.length:Int):=by omega
  have Q7:=KA.bl nV (by omega);have c0:cell A ⟨b3,0,none⟩=some el:=by rw[Q7.cell];rfl
  have Q9:uy A p fx el di sa mo fv vs ms:=hp.aj KE;obtain⟨eb,eo,ec,ee,hld⟩:=Q9.e.ld1 (i:=kk) (by omega);have hS:=Q9.es kk (by omega);have PJ:(0:Int)<=(kk:Int)/\(kk:Int)<(vs.length:Int):=by omega
  have l7:aI A (.pointer (some ⟨b7,0,none⟩)) 1=some #[w]:=BA.aI 1 rfl;rw[ed]at PL PN;simp-implicitDefEqProofs only[go_sem,zS,↓reduceIte,Za,Zb,Zc,reduceCtorEq,zU,zV,Zf,Zg,Zh,Zi,Zd,Ze,zF,gi,ed,Vj,hdc,ai,Nat.mul_one,es,YZ,KC,d1,d2,d3,Rj,hsc,c0,ee,PJ,hld,l7,aB];refine(c.or _ _ _ _ A SA hS).mono ?_;rintro r A1 ⟨S1,K1,o1⟩;have S1':=S1;obtain⟨w',W',rfl,EM⟩:=S1';have MU:=K1.bl BA (by simp);have t7:=MU.bK (o:=0) (n:=1) (by simp);have Eo:=MU.aA 0 [w'];have a1:bQ #[w']:=bE (by simpa using aM EM.sl.ax);have K2:af (fun q=>q=b7) A1 (aA A1 ⟨b7,0,none⟩ [w']):=(af.refl _ _).aA _ (.inl rfl);have aaG:=BA.lt;have n1:∀q,jP (.agg #[w']) q->q≠b7:=fun q hq=>by have:=o1 q hq;omega
  rw[ae];simp-implicitDefEqProofs only[go_sem,zS,↓reduceIte,Za,Zb,Zc,reduceCtorEq,zU,zV,Zf,Zg,Zh,Zi,Zd,Ze,zF,t7];refine⟨a1,?_⟩;rw[ae];have S2:=S1.ag K2 n1;have hcap:=Y0.cap;rw[bw,ed]at hcap;have hcap:d.length<=cd:=hcap;have QZ:(0:Int)<=(i:Int)/\(i:Int)<=(cd:Int):=by omega
  have uI:af (fun q=>q=b7) A (aA A1 ⟨b7,0,none⟩ [w']):=K1.any.trans K2;have To:aG (aA A1 ⟨b7,0,none⟩ [w']) dv (iN d):=Y0.ag uI fun q hq e=>by
   have e:q=b7:=e;have h9:q<H.size:=hd.bM hq;omega
  have PO:af (fun _=>False) H (aA A1 ⟨b7,0,none⟩ [w']):=KE.trans' uI fun q hq e=>by omega
  have BK:=uI.bl Q7 (by omega);generalize aA A1 ⟨b7,0,none⟩ [w']=A2 at Eo K2 S2 uI To PO BK⊢;have rD:i<=4096:=by omega
  simp-implicitDefEqProofs only[go_sem,zS,↓reduceIte,Za,Zb,Zc,reduceCtorEq,zU,zV,Zf,Zg,Zh,Zi,Zd,Ze,zF,gi,QZ,ite_self];refine aO i [46,11,69,6,45] rfl rfl (by omega) (by simp-implicitDefEqProofs only[go_sem,zS,↓reduceIte,Za,Zb,Zc,reduceCtorEq,ae,zU,zV,Zf,Zg,Zh,Zi,Zd,Ze]) (by simp-implicitDefEqProofs only[go_sem,zS,↓reduceIte,Za,Zb,Zc,reduceCtorEq,ae,zU,zV,Zf,Zg,Zh,Zi,Zd,Ze]) (fun j g Y=>af (fun _=>False) A2 Y) (af.refl _ _) ?_ ?_
  ·rintro j g2 Y hj gj gm KY;simp-implicitDefEqProofs only[go_sem,zS,↓reduceIte,Za,Zb,Zc,reduceCtorEq,ae,zU,zV,Zf,Zg,Zh,Zi,Zd,Ze]at gj gm;obtain⟨bd',od',cd',ed',Y3⟩:=(To.ag KY (by simp)).nat (i:=j) (by omega);rw[ed]at ed'
   cases ed'
   have Y4:d[j]∈d.take i:=by
    rw[List.mem_take_iff_getElem];exact⟨j,by omega,rfl⟩
   obtain⟨hne,hor⟩:=hdf d[j] Y4;generalize d[j]=jj at*;have YP:(0:Int)<=(j:Int)/\(j:Int)<(i:Int):=by omega
   have e1:((jj:Int)==(kk:Int))=false:=beq_eq_false_iff_ne.2 (by omega);have SM:=KY.bl BK (by simp);have c1:cell Y ⟨b3,1,none⟩=some di:=by rw[SM.cell];rfl
   have hdi:sN Y di p.di:=(hp.d.aj PO).aj KY;have Tp:p.di.length<=1000000:=by have:=hG.dl;omega
   simp-implicitDefEqProofs only[go_sem,zS,↓reduceIte,Za,Zb,Zc,reduceCtorEq,zU,zV,Zf,Zg,Zh,Zi,Zd,Ze,zF,gj,YP,Y3,ai,Nat.mul_one,e1,c1];refine(c.con p.di di ((jj:Int),(kk:Int)) Y hdi Tp).mono ?_;rintro r Y1 ⟨rfl,Pj⟩;have Y5:=Pj.bl SM (by simp);have c11:cell Y1 ⟨b3,1,none⟩=some di:=by rw[Y5.cell];rfl
   rw[ae]
   by_cases hm:((jj:Int),(kk:Int))∈p.di
   ·rw[decide_eq_true hm];simp-implicitDefEqProofs only[go_sem,zS,↓reduceIte,Za,Zb,Zc,reduceCtorEq,ae,zU,zV,Zf,Zg,Zh,Zi,Zd,Ze,zF,c11];exact KY.trans Pj
   ·rw[decide_eq_false hm];have VB:((kk:Int),(jj:Int))∈p.di:=hor.resolve_left hm;simp-implicitDefEqProofs only[go_sem,zS,↓reduceIte,Za,Zb,Zc,reduceCtorEq,zU,zV,Zf,Zg,Zh,Zi,Zd,Ze,zF,c11,forall_const];refine(c.con p.di di ((kk:Int),(jj:Int)) Y1 (hdi.aj Pj) Tp).mono ?_;rintro r Y2 ⟨rfl,SL⟩;rw[ae,decide_eq_true VB];simp-implicitDefEqProofs only[go_sem,zS,↓reduceIte,Za,Zb,Zc,reduceCtorEq,ae,zU,zV,Zf,Zg,Zh,Zi,Zd,Ze,zF];exact(KY.trans Pj).trans SL
  ·rintro g2 Y gj KY;simp-implicitDefEqProofs only[go_sem,zS,↓reduceIte,Za,Zb,Zc,reduceCtorEq,ae,zU,zV,Zf,Zg,Zh,Zi,Zd,Ze];refine⟨w',KY.bl Eo (by simp),((S2.aj KY).congr fun n=>?_),n1,(KA.trans uI).trans KY.any⟩;rw[sk,List.any_append];simp
 ·rintro g A gi ⟨w,BA,SA,hwb,KA⟩;rw[List.take_length]at SA;have KE:af (fun _=>False) H A:=fy.trans' KA fun q hq e=>by omega
  have l7:aI A (.pointer (some ⟨b7,0,none⟩)) 1=some #[w]:=BA.aI 1 rfl;simp-implicitDefEqProofs only[go_sem,zS,↓reduceIte,Za,Zb,Zc,reduceCtorEq,zU,zV,Zf,Zg,Zh,Zi,Zd,Ze,zF,l7];refine(c.len _ _ A SA).mono ?_;rintro r A1 ⟨rfl,K1⟩;have Y6:decide (((aD fun u=>d.any fun k=>bS p k u).length:Int)<(d.length:Int))=true:=decide_eq_true (by have:=hh.few;omega);rw[ae];simp-implicitDefEqProofs only[go_sem,zS,↓reduceIte,Za,Zb,Zc,reduceCtorEq,ae,zU,zV,Zf,Zg,Zh,Zi,Zd,Ze,PL,PN,Y6];rw[hQ];exact⟨rfl,KE.trans K1⟩
end Go.Mg
namespace Go.Mg
open Go Go.RowKit
def uY (ι:aJ):S:=
 kY [kR 2 (ι.t 358) 0,kR 3 (ι.t 372) 1,kC 4 (.int .u8 0),kC 5 (.int .i64 0)] (.seq (kY [kM 11 5 2,kc 12 (kg (ι.f 360) [.t 11]),kV 13 (.cm .neq .i64 (.t 12) (.c (.int .i64 0)))] (.ite (.v 13) (kY [kC 4 (.int .u8 2),kC 5 (.int .i64 0)] .ret) .skip)) (.seq (kY [kM 15 1 3,kc 16 (kg (ι.f 434) [.t 15]),kF 14 16,kQ 17 14 0,kQ 18 14 1,kB 6 17,kB 7 18] (kY [kA 19 7,kV 20 (.not (.t 19))] (.ite (.v 20) (kY [kA 21 6,kC 4 (.int .u8 2),kB 5 21] .ret) .skip))) (kY [kG 22 0 3,kD 23 22,kL 24 23,kc 25 (.nq (ι.t 138) 1 24 #[kZ] (.t 24) (.t 24)),kB 8 25] (kY [kA 26 8,kG 27 4 2,kD 28 27,kc 29 (kg (ι.f 159) [.t 28]),kU 30 (.is 1 (.t 26) (.c (.int .i64 0))),kf (.st (.t 30) (.t 29))] (.seq (kY [kG 31 0 3,kV 32 (.ld (.t 31)),kO 33 32,kC 34 (.int .i64 0)] (.blk 0 (.loop (kY [kH 35 34 33] (.seq (.ite (.v 35) .skip (.exit 0)) (.seq (.blk 1 (kY [kA 36 34,kK 37 4 32 34,kN 38 4 37,kd 10 (.new (ι.t 368) #[.int .u8 0,.int .i64 0,kZ,kZ]),kB 9 36,kf (.stn 4 (.v 10) (.t 38))] (kY [kG 39 0 10,kV 40 (.ld (.t 39))] (.blk 2 (kY [kU 52 (.cm .eql .u8 (.v 40) (.c (.int .u8 1))),kB 51 52] (.ite (.v 51) (kY [kM 53 5 2,kM 54 4 10,kA 55 8,kA 56 9,kI 57 1 55 56,kD 58 57,kA 59 8,kc 60 (kg (ι.f 435) [.t 53,.t 54,.t 58,.t 59]),kV 61 (.not (.t 60))] (.ite (.v 61) (kY [kA 62 9,kC 4 (.int .u8 3),kB 5 62] .ret) .skip)) (kY [kU 64 (.cm .eql .u8 (.v 40) (.c (.int .u8 2))),kB 63 64] (.ite (.v 63) (kY [kM 65 5 2,kA 66 8,kA 67 9,kI 68 1 66 67,kD 69 68,kc 70 (kg (ι.f 363) [.t 65,.t 69]),kV 71 (.not (.t 70))] (.ite (.v 71) (kY [kA 72 9,kC 4 (.int .u8 4),kB 5 72] .ret) .skip)) (kY [kM 41 5 2,kG 42 3 10,kD 43 42,kA 44 8,kA 45 9,kI 46 1 44 45,kD 47 46,kc 48 (kg (ι.f 436) [.t 41,.t 43,.t 47]),kV 49 (.not (.t 48))] (.ite (.v 49) (kY [kA 50 9,kC 4 (.int .u8 5),kB 5 50] .ret) .skip)))))))))) (.reg [ke 73 34,kB 34 73]))))))) (kY [kC 4 (.int .u8 1),kC 5 (.int .i64 0)] .ret))))))
def uZ:List RV:=[.t 4,.t 5]
theorem iC.parent {p:eX} {fx:List Int} {L:List eC} {σ:Nat->List Int} (h:iC p fx L σ) {i:Nat} (hi:i<L.length):i=0\/∃a<i,i∈(L.getD a bX).ch:=by
 by_cases h0:i=0
 ·exact .inl h0
 ·have hc:=h.cnt i;rw[if_pos ⟨by omega,hi⟩]at hc;have hm:i∈L.flatMap eC.ch:=List.count_pos_iff.1 (by omega);rw[List.mem_flatMap]at hm;obtain⟨y,hy,Rk⟩:=hm;obtain⟨a,ha,rfl⟩:=List.getElem_of_mem hy;have e:L.getD a bX=L[a]:=by rw[List.getD_eq_getElem?_getD,List.getElem?_eq_getElem ha];rfl
  refine .inr ⟨a,?_,by rw[e];exact Rk⟩;have hok:=h.ok a ha;rw[e]at hok;rcases hok with⟨h1,h2,h3,h4,h5,h6⟩|⟨h',_⟩|⟨_,_,h',_⟩
  ·obtain⟨j,hj,hje⟩:=List.getElem_of_mem Rk;have:=(h6 j hj).1;rw[List.getD_eq_getElem?_getD,List.getElem?_eq_getElem hj,Option.getD_some,hje]at this;exact this
  ·rw[h']at Rk;cases Rk
  ·rw[h']at Rk;cases Rk
structure PQ (P:Program) (ι:aJ):Prop where
 BR:fg P ι (ι.f 360)
 tree:mN P (ι.f 434)
 bra:qd P ι (ι.f 435)
 hal:mQ P (ι.f 436)
 brk:jc P ι (ι.f 363)
 cln:dA P (ι.f 159)
def jt (P:Program) (ι:aJ) (k:FuncId):Prop:=∀(p:eX) (fx:List Int) (L:List eC) (σ:Nat->List Int) (pv rv:Value) (H:Hp),br ι H->dE H pv p fx->cD p->jV p.el.length fx->uT H rv L->iC p fx L σ→
 an P k #[pv,.agg #[rv]] H fun r H'=>r=.tuple #[.int .u8 1,.int .i64 0]/\af (fun _=>False) H H'
theorem GW {P:Program} {ι:aJ} {k:FuncId} (hk:aq P k (uY ι) uZ 2) (c:PQ P ι):jt P ι k:=by
 intro p fx L σ pv rv H hT hP hG hU hR hok;refine qI fun Q hQ=>?_;refine ah hk (args:=[_,_]) (by simp) ?_;unfold uY uZ kA kB kF kC kD ke kG kH kI kK kL kM kN kO kQ kR kU kV kc kd kf kg kY kZ;have Tq:=hP;obtain⟨el,di,sa,mo,fv,vs,ms,rfl,hp⟩:=hP;have hgn:=hG.n;have aaH:=hG.n0;have qU:=hU.1;obtain⟨nl,GQ,vu,hnd⟩:=hR.nd;have YN:=hR.few;simp-implicitDefEqProofs only[go_sem,zS,↓reduceIte,Za,Zb,Zc,reduceCtorEq,zU,zV,Zf,Zg,Zh,Zi,Zd,Ze,zF];refine ay fun H1 b2 e2 z2 B2 K2=>?_;simp-implicitDefEqProofs only[go_sem,zS,↓reduceIte,Za,Zb,Zc,reduceCtorEq,zU,zV,Zf,Zg,Zh,Zi,Zd,Ze,zF];refine ay fun H2 b3 e3 z3 B3 K3=>?_;have fy:=K2.trans K3;have B22:Bl H2 b2 [el,di,sa,mo,fv]:=K3.bl B2 (by simp);have nV:Bl H2 b3 [rv]:=B3;have s2:=K2.size;have s3:=K3.size;have xS:((0:Int)!=0)=false:=rfl;simp-implicitDefEqProofs only[go_sem,zS,↓reduceIte,Za,Zb,Zc,reduceCtorEq,zU,zV,Zf,Zg,Zh,Zi,Zd,Ze,zF,B22.aI 5 rfl];refine(c.BR p fx _ H2 (Tq.aj fy) hG hU).mono ?_;rintro r H3 ⟨rfl,K4⟩;have ny:=fy.trans K4;have B33:=K4.bl nV (by simp);rw[ae];simp-implicitDefEqProofs only[go_sem,zS,↓reduceIte,Za,Zb,Zc,reduceCtorEq,zU,zV,Zf,Zg,Zh,Zi,Zd,Ze,zF,xS,B33.aI 1 rfl];refine(c.tree L rv H3 (hR.aj ny) hok.tree).mono ?_;rintro r H4 ⟨rfl,K5⟩;have MS:=ny.trans K5;have Mv:=K5.bl B33 (by simp);have JJ:=(K4.trans K5).bl B22 (by simp);have c0:cell H4 ⟨b3,0,none⟩=some rv:=by rw[Mv.cell];rfl
 have hsl:=GQ.ax;have Fw:aP rv=L.length:=by rw[GQ.len,vu]
 have s4:=K4.size;have s5:=K5.size;rw[ae];simp-implicitDefEqProofs only[go_sem,zS,↓reduceIte,Za,Zb,Zc,reduceCtorEq,zU,zV,Zf,Zg,Zh,Zi,Zd,Ze,zF,c0,hsl,Fw];refine⟨⟨by omega,by omega,by unfold maxLen;omega⟩,?_⟩;refine aF fun H5 sb e8 z8 B8 K6=>?_;rw[cx]at B8;have IH:=MS.trans K6;have Mw:=K6.bl JJ (by simp);have JK:=K6.bl Mv (by simp);have c4:cell H5 ⟨b2,4,none⟩=some fv:=by rw[Mw.cell];rfl
 simp-implicitDefEqProofs only[go_sem,zS,↓reduceIte,Za,Zb,Zc,reduceCtorEq,zU,zV,Zf,Zg,Zh,Zi,Zd,Ze,zF,c4];refine(c.cln fx fv H5 (hp.aj IH).f (by omega)).mono ?_;rintro w0 H6 ⟨O6,o6,K7⟩;have Q3:=IH.trans K7;have Tr:=K7.bl B8 (by simp);have Ou:=K7.bl Mw (by simp);have YE:=K7.bl JK (by simp);have Jq:0<L.length:=by have:=hok.ne;cases L with|nil=>exact absurd rfl this|cons a l=>simp
 have GX:(0:Int)<(L.length:Int):=by omega
 have t8:=Tr.bk (o:=0) (by rw[List.length_replicate];exact Jq);have o8:w0.oneCell'=true:=aM O6.sl.ax;have Y7:=Tr.al 0 w0;have K8:af (fun q=>q=sb) H6 (al H6 ⟨sb,0,none⟩ w0):=(af.refl _ _).al _ (.inl rfl);have Ts:H4.size=sb:=e8.symm;rw[ae];simp-implicitDefEqProofs only[go_sem,zS,↓reduceIte,Za,Zb,Zc,reduceCtorEq,zU,zV,Zf,Zg,Zh,Zi,Zd,Ze,zF,GX,ai,Int.toNat_zero,Nat.zero_mul,Nat.add_zero,t8];refine⟨o8,?_⟩;rw[ae];have s6:=K6.size;have s7:=K7.size;have hw0:∀q,aU w0 q->q≠sb:=fun q hq=>by have:=o6 q (O6.aU hq);omega
 have S0:=O6.sl.ag K8 hw0;have KI:af (fun _=>False) H (al H6 ⟨sb,0,none⟩ w0):=Q3.trans' K8 fun q hq e=>by omega
 have B27:=K8.bl Ou (by omega);have Vk:=K8.bl YE (by omega);obtain⟨Tt,PS⟩:∃Tt,Tt=(List.replicate L.length (Value.slice none 0 0)).set 0 w0:=⟨_,rfl⟩
 have Y8:Tt.length=L.length:=by rw[PS];simp
 have Y9:Tt.getD 0 undef=w0:=by rw[PS,List.getD_eq_getElem?_getD,List.getElem?_set_self (by simpa using Jq)];rfl
 rw[<-PS]at Y7;generalize al H6 ⟨sb,0,none⟩ w0=H7 at K8 S0 KI B27 Vk Y7⊢;have s8:=K8.size;have c07:cell H7 ⟨b3,0,none⟩=some rv:=by rw[Vk.cell];rfl
 simp-implicitDefEqProofs only[go_sem,zS,↓reduceIte,Za,Zb,Zc,reduceCtorEq,zU,zV,Zf,Zg,Zh,Zi,Zd,Ze,zF,c07,hsl,Fw];have n0:¬∃a,a<0/\True:=fun⟨a,h,_⟩=>by omega
 refine aO L.length [35,10,9,40,51,61,4,5,63,71,49,34] rfl rfl (by omega) (by simp-implicitDefEqProofs only[go_sem,zS,↓reduceIte,Za,Zb,Zc,reduceCtorEq,ae,zU,zV,Zf,Zg,Zh,Zi,Zd,Ze]) (by simp-implicitDefEqProofs only[go_sem,zS,↓reduceIte,Za,Zb,Zc,reduceCtorEq,ae,zU,zV,Zf,Zg,Zh,Zi,Zd,Ze]) (fun i g A=>∃ws,ws.length=L.length/\Bl A sb ws/\af (fun q=>q=sb) H7 A/\∀j<L.length,(j=0\/∃a<i,j∈(L.getD a bX).ch)->aG A (ws.getD j undef) (iL (σ j))/\∀q,aU (ws.getD j undef) q->q≠sb) ?_ ?_ ?_
 ·refine⟨Tt,Y8,Y7,af.refl _ _,fun j hj h=>?_⟩;rcases h with rfl|⟨a,ha,_⟩
  ·rw[Y9,hok.fx];exact⟨S0,hw0⟩
  ·omega
 ·rintro i g A hi gi gn ⟨ws,IB,BA,KA,hset⟩;simp-implicitDefEqProofs only[go_sem,zS,↓reduceIte,Za,Zb,Zc,reduceCtorEq,ae,zU,zV,Zf,Zg,Zh,Zi,Zd,Ze]at gi gn;have KE:af (fun _=>False) H A:=KI.trans' KA fun q hq e=>by omega
  obtain⟨Si,ni⟩:=hset i hi (hok.parent hi);obtain⟨b,o,c',e,hld⟩:=zP (GQ.aj KE) (i:=i) (by omega);have hb:(0:Int)<=(i:Int)/\(i:Int)<(nl.length:Int):=by omega
  have hb2:(0:Int)<=(i:Int)/\(i:Int)<(L.length:Int):=by omega
  have F5:=hnd i hi;have Zj:=hok.ok i hi;have Zk:=hok.us i hi;generalize hx:nl.getD i zy=x at*;simp-implicitDefEqProofs only[go_sem,zS,↓reduceIte,Za,Zb,Zc,reduceCtorEq,zU,zV,Zf,Zg,Zh,Zi,Zd,Ze,zF,gi,e,ai,hb,hld,aB];refine fR (jC x) (.int .i64 (i:Int)) rfl (by simp-implicitDefEqProofs only[go_sem,zS,↓reduceIte,Za,Zb,Zc,reduceCtorEq,ae,zU,zV,Zf,Zg,Zh,Zi,Zd,Ze]) (by simp-implicitDefEqProofs only[go_sem,zS,↓reduceIte,Za,Zb,Zc,reduceCtorEq,ae,zU,zV,Zf,Zg,Zh,Zi,Zd,Ze]) rfl rfl (List.all_eq_true.2 (nX _)) fun A1 b10 e10 z10 Rl jF=>?_;have Bx:=F5.kd;have Zl:cell A1 ⟨b10,0,none⟩=some (.int .u8 ((L.getD i bX).kd:Int)):=by rw[Rl.cell,<-Bx];rfl
  have MU:=jF.bl BA (by simp);have B2A:=(KA.bl B27 (by omega))
  have B21:=jF.bl B2A (by simp);have cs:cell A1 ⟨sb,i,none⟩=some (ws.getD i undef):=by
   rw[MU.cell,List.getD_eq_getElem?_getD,List.getElem?_eq_getElem (by omega)];rfl
  have Zm:=Si.ag jF (by simp);have KJ:=KE.trans jF;have hP1:=Tq.aj KJ;have l2:=B21.aI 5 rfl;have Zo:=Rl.aI 4 rfl;have Zp:cell A1 ⟨b10,3,none⟩=some (mJ x.2.2.2):=by rw[Rl.cell];rfl
  have Zq:∀{X:Hp},af (fun q=>q=sb) A X->∀j<L.length,(j=0\/∃a<i,j∈(L.getD a bX).ch)->aG X (ws.getD j undef) (iL (σ j))/\∀q,aU (ws.getD j undef) q->q≠sb:=fun KX j hj h=>by
   obtain⟨g1,g2⟩:=hset j hj h;exact⟨g1.ag KX g2,g2⟩
  rcases Zj with⟨h1,h2,h3,h4,h5,h6⟩|⟨h1,h2⟩|⟨h1,h2,h3,h4⟩
  ·have d1:(((1:Nat):Int)==1)=true:=rfl;simp-implicitDefEqProofs only[go_sem,zS,↓reduceIte,Za,Zb,Zc,reduceCtorEq,zU,zV,Zf,Zg,Zh,Zi,Zd,Ze,zF,Zl,h1,d1,l2,Zo,hb2,ai,cs];have p8:=c.bra p fx (σ i) x (L.getD i bX) σ (.agg #[el,di,sa,mo,fv]) (ws.getD i undef) ws sb H A1 hT Tq hG F5 KJ (by omega) Zm ni Zk.1 MU h3 h4 h5 fun j hj=>by
    obtain⟨q1,q2,q3⟩:=h6 j hj;exact⟨by omega,q3⟩
   rw[IB]at p8;refine p8.mono ?_;rintro r A2 ⟨rfl,rT,Zr,Eo,uI,hsame,vY⟩;rw[ae];simp-implicitDefEqProofs only[go_sem,zS,↓reduceIte,Za,Zb,Zc,reduceCtorEq,ae,zU,zV,Zf,Zg,Zh,Zi,Zd,Ze];have qY:af (fun q=>q=sb) A A2:=jF.any.trans uI;refine⟨rT,Zr,Eo,KA.trans qY,fun j hj h=>?_⟩
   by_cases hjc:j∈(L.getD i bX).ch
   ·exact vY j hjc
   ·rw[hsame j hjc];refine Zq qY j hj ?_;rcases h with h|⟨a,ha,Eh⟩
    ·exact .inl h
    ·have:a≠i:=fun e=>hjc (by rw[<-e];exact Eh);exact .inr ⟨a,by omega,Eh⟩
  ·have hk2:(L.getD i bX).kd=2:=by rw[h1]
   have vr:(L.getD i bX).ch=[]:=by rw[h1]
   have d1:(((2:Nat):Int)==1)=false:=rfl;have d2:(((2:Nat):Int)==2)=true:=rfl;simp-implicitDefEqProofs only[go_sem,zS,↓reduceIte,Za,Zb,Zc,reduceCtorEq,zU,zV,Zf,Zg,Zh,Zi,Zd,Ze,zF,Zl,hk2,d1,d2,l2,Zo,hb2,ai,cs];refine(c.brk p fx (σ i) _ _ A1 (hT.ag KJ) hP1 hG Zk Zm).mono ?_;rintro r A2 ⟨rfl,uI⟩;rw[ae,h2];simp-implicitDefEqProofs only[go_sem,zS,↓reduceIte,Za,Zb,Zc,reduceCtorEq,ae,zU,zV,Zf,Zg,Zh,Zi,Zd,Ze];have qY:af (fun _=>False) A A2:=jF.trans uI;refine⟨ws,IB,qY.bl BA (by simp),KA.trans qY.any,fun j hj h=>Zq qY.any j hj ?_⟩;rcases h with h|⟨a,ha,Eh⟩
   ·exact .inl h
   ·have:a≠i:=fun e=>by rw[e,vr]at Eh;cases Eh
    exact .inr ⟨a,by omega,Eh⟩
  ·have d1:(((3:Nat):Int)==1)=false:=rfl;have d2:(((3:Nat):Int)==2)=false:=rfl;simp-implicitDefEqProofs only[go_sem,zS,↓reduceIte,Za,Zb,Zc,reduceCtorEq,zU,zV,Zf,Zg,Zh,Zi,Zd,Ze,zF,Zl,h1,d1,d2,l2,Zo,Zp,hb2,ai,cs];refine(c.hal p fx (σ i) (L.getD i bX).sp _ _ _ A1 hP1 hG (F5.sp.ag KJ (by simp)) Zm Zk.1 h4 h4.sz).mono ?_;rintro r A2 ⟨rfl,uI⟩;rw[ae];simp-implicitDefEqProofs only[go_sem,zS,↓reduceIte,Za,Zb,Zc,reduceCtorEq,ae,zU,zV,Zf,Zg,Zh,Zi,Zd,Ze];have qY:af (fun _=>False) A A2:=jF.trans uI;refine⟨ws,IB,qY.bl BA (by simp),KA.trans qY.any,fun j hj h=>Zq qY.any j hj ?_⟩;rcases h with h|⟨a,ha,Eh⟩
   ·exact .inl h
   ·have:a≠i:=fun e=>by rw[e,h3]at Eh;cases Eh
    exact .inr ⟨a,by omega,Eh⟩
 ·rintro g A gi ⟨ws,IB,BA,KA,hset⟩;simp-implicitDefEqProofs only[go_sem,zS,↓reduceIte,Za,Zb,Zc,reduceCtorEq,ae,zU,zV,Zf,Zg,Zh,Zi,Zd,Ze];rw[hQ];exact⟨rfl,KI.trans' KA fun q hq e=>by omega⟩
end Go.Mg
