/- Lemmas of ours. No conditions. -/
import Derived.Test.YteeemadonfcliabGreatDoorMgGA
open Nat renaming reduceEqDiff→Za,reduceAdd→Zb,reduceMul→Zc,reduceLeDiff→Zd,reduceLT→Ze
open Int renaming reduceBEq→Zf,reduceBNe→Zg,reduceLE→Zh,reduceLT→Zi
set_option linter.all false
set_option maxRecDepth 100000
namespace Go.Mg
open Go Go.RowKit
def tt (ι:aC):S:=
 kY [kC 4 (.bool false)] (kY [kA 5 0,kU 6 (.ld (.v 1)),kU 7 (.cm .leq .i64 (.t 5) (.t 6)),kF 8 7,kS 9 8 false 0,kT 10 8 false (.ld (.v 2)),kT 11 8 false (.cm .geq .i64 (.t 9) (.t 10)),kU 12 (.pick (.t 8) (.c (.bool true)) (.t 11)),kB 4 12] .ret)
def tv:List RV:=[.t 4]
def xM (ι:aC):S:=
 kY [kR 3 (ι.t 368) 0,kR 4 (ι.t 26) 1,kR 5 (ι.t 26) 2,kC 6 (.bool false)] (.seq (kY [kG 7 0 3,kV 8 (.ld (.t 7))] (.blk 0 (kY [kU 10 (.cm .eql .u8 (.v 8) (.c (.int .u8 1))),kB 9 10] (.ite (.v 9) (kY [kG 11 3 3,kD 12 11,kL 13 12,kU 14 (.cm .eql .i64 (.t 13) (.c (.int .i64 0))),kF 15 14,kT 16 15 true (.fa 2 (.v 3)),kT 17 15 true (.ld (.t 16)),kT 18 15 true (.m (.mkf (ι.f 432) [] [.v 4,.v 5])),.ge (.t 19) (.t 15) true (kg (ι.f 354) [.t 17,.t 18]),kT 20 15 true (.not (.t 19)),kJ 21 15 20,kB 6 21] .ret) (kY [kU 23 (.cm .eql .u8 (.v 8) (.c (.int .u8 2))),kB 22 23] (.ite (.v 22) (kY [kG 24 1 3,kD 25 24,kU 26 (.cm .eql .i64 (.t 25) (.c (.int .i64 0))),kF 27 26,kT 28 27 true (.fa 2 (.v 3)),kT 29 27 true (.ld (.t 28)),kT 30 27 true (.m (.lenl (.t 29))),kT 31 27 true (.cm .eql .i64 (.t 30) (.c (.int .i64 0))),kJ 32 27 31,kF 33 32,kT 34 33 true (.fa 3 (.v 3)),kT 35 33 true (.ld (.t 34)),kT 36 33 true (.m (.lenl (.t 35))),kT 37 33 true (.cm .eql .i64 (.t 36) (.c (.int .i64 0))),kJ 38 33 37,kB 6 38] .ret) (kY [kU 40 (.cm .eql .u8 (.v 8) (.c (.int .u8 3))),kB 39 40] (.ite (.v 39) (kY [kG 41 1 3,kD 42 41,kU 43 (.cm .eql .i64 (.t 42) (.c (.int .i64 0))),kF 44 43,kT 45 44 true (.fa 2 (.v 3)),kT 46 44 true (.ld (.t 45)),kT 47 44 true (.m (.lenl (.t 46))),kT 48 44 true (.cm .eql .i64 (.t 47) (.c (.int .i64 0))),kJ 49 44 48,kB 6 49] .ret) .skip)))))))) (kY [kC 6 (.bool false)] .ret))
def xN:List RV:=[.t 6]
def xP (ι:aC):S:=
 kY [kR 1 (ι.t 372) 0,kC 2 (.int .i64 0),kC 3 (.bool false)] (kY [kG 14 0 1,kD 15 14,kL 16 15,kB 4 16] (.seq (kY [kG 17 0 1,kV 18 (.ld (.t 17)),kO 19 18,kC 20 (.int .i64 0)] (.blk 0 (.loop (kY [kH 21 20 19] (.seq (.ite (.v 21) .skip (.exit 0)) (.seq (.blk 1 (kY [kA 22 20,kK 23 4 18 20,kN 24 4 23,kd 6 (.new (ι.t 368) #[.int .u8 0,.int .i64 0,kZ,kZ]),kB 5 22,kf (.stn 4 (.v 6) (.t 24))] (kY [kM 25 4 6,kA 26 5,kA 27 4,kc 28 (kg (ι.f 433) [.t 25,.t 26,.t 27]),kV 29 (.not (.t 28))] (.ite (.v 29) (kY [kA 30 5,kB 2 30,kC 3 (.bool false)] .ret) .skip)))) (.reg [ke 31 20,kB 20 31]))))))) (kY [kA 32 4,kc 33 (.pV (ι.t 26) 1 8 #[.int .i64 0] (.t 32) (.t 32)),kB 7 33] (.seq (kY [kG 34 0 1,kV 35 (.ld (.t 34)),kO 36 35,kC 37 (.int .i64 0)] (.blk 2 (.loop (kY [kH 38 37 36] (.seq (.ite (.v 38) .skip (.exit 2)) (.seq (.blk 3 (kY [kK 39 4 35 37,kN 40 4 39,kd 9 (.new (ι.t 368) #[.int .u8 0,.int .i64 0,kZ,kZ]),kf (.stn 4 (.v 9) (.t 40))] (kY [kG 41 2 9,kV 42 (.ld (.t 41)),kO 43 42,kC 44 (.int .i64 0)] (.blk 4 (.loop (kY [kH 45 44 43] (.seq (.ite (.v 45) .skip (.exit 4)) (.seq (.blk 5 (kY [kK 46 1 42 44,kD 47 46,kB 11 47] (.reg [kA 48 7,kA 49 11,kI 50 1 48 49,kD 51 50,kU 52 (.ar .add .i64 (.t 51) (.c (.int .i64 1))),kI 53 1 48 49,kf (.st (.t 53) (.t 52))]))) (.reg [ke 54 44,kB 44 54]))))))))) (.reg [ke 55 37,kB 37 55]))))))) (.seq (kY [kV 56 (.mv (.v 7)),kO 57 56,kC 58 (.int .i64 0)] (.blk 6 (.loop (kY [kH 59 58 57] (.seq (.ite (.v 59) .skip (.exit 6)) (.seq (.blk 7 (kY [kA 60 58,kK 61 1 56 58,kD 62 61,kB 12 60,kB 13 62] (kY [kA 63 12,kU 64 (.cm .gtr .i64 (.t 63) (.c (.int .i64 0))),kF 65 64,kS 66 65 true 13,kT 67 65 true (.cm .neq .i64 (.t 66) (.c (.int .i64 1))),kJ 68 65 67,kF 69 68,kS 70 69 false 12,kT 71 69 false (.cm .eql .i64 (.t 70) (.c (.int .i64 0))),kT 72 69 false (.mv (.t 71)),kS 73 72 true 13,kT 74 72 true (.cm .neq .i64 (.t 73) (.c (.int .i64 0))),kT 75 69 false (.pick (.t 72) (.t 74) (.c (.bool false))),kV 76 (.pick (.t 69) (.c (.bool true)) (.t 75))] (.ite (.v 76) (kY [kA 77 12,kB 2 77,kC 3 (.bool false)] .ret) .skip)))) (.reg [ke 78 58,kB 58 78]))))))) (kY [kA 79 4,kU 80 (.cm .gtr .i64 (.t 79) (.c (.int .i64 0))),kC 2 (.int .i64 0),kB 3 80] .ret))))))
def xQ:List RV:=[.t 2,.t 3]
def Rv (P:Program) (q:Int->Bool) (l:List Int) (g:FuncId) (ca:Array Value) (H:Hp):Prop:=bB P g=true/\∀x∈l,ak P g (#[.int .i64 x]++ca) H fun r A'=>r=.bool (q x)/\A'=H
def uU (P:Program) (k:FuncId):Prop:=∀(l:List Int) (q:Int->Bool) (v:Value) (g:FuncId) (ca:Array Value) (H:Hp),aM H v (iL l)->l.length<=1000000->Rv P q l g ca H->ak P k #[v,.func (.func g) #[] ca] H fun r H'=>r=.int .i64 (jS q l)/\H'=H
variable {P:Program} {ι:aC} {k:FuncId} {H H':Hp} {i n:Nat} {x:yj} {y:fj} {rv:Value} {L:List fj} {p:eT} {fx:List Int} {σ:Nat->List Int}
theorem Ku (hk:an P k (si ι) sj 2):uU P k:=by
 intro l q v g ca H hv hl ⟨hg,hq⟩;refine ah hk (args:=[_,_]) (by simp) ?_;unfold si sj kA kB kC kD ke kH kI kV kd kY;have hlen:aO v=l.length:=by rw[hv.len,aA]
 simp-implicitDefEqProofs only[go_sem,zS,↓reduceIte,Za,Zb,Zc,reduceCtorEq,ae,zU,zV,Zf,Zg,Zh,Zi,Zd,Ze,zF,hv.aq,hlen];refine aL l.length [9,5,16,4,8] rfl rfl (by omega) (by simp-implicitDefEqProofs only[go_sem,zS,↓reduceIte,Za,Zb,Zc,reduceCtorEq,ae,zU,zV,Zf,Zg,Zh,Zi,Zd,Ze]) (by simp-implicitDefEqProofs only[go_sem,zS,↓reduceIte,Za,Zb,Zc,reduceCtorEq,ae,zU,zV,Zf,Zg,Zh,Zi,Zd,Ze]) (fun i g A=>(∀j<i,∀hj:j<l.length,q l[j]=false)/\A=H) ⟨fun j h=>by omega,rfl⟩ ?_ ?_
 ·rintro i f A hi gi gn ⟨hno,rfl⟩;simp-implicitDefEqProofs only[go_sem,zS,↓reduceIte,Za,Zb,Zc,reduceCtorEq,ae,zU,zV,Zf,Zg,Zh,Zi,Zd,Ze]at gi gn;obtain⟨b,o,c,e,hc⟩:=hv.TN hi;have Ak:=hq l[i] (List.getElem_mem hi);simp-implicitDefEqProofs only[go_sem,zS,↓reduceIte,Za,Zb,Zc,reduceCtorEq,ae,zU,zV,Zf,Zg,Zh,Zi,Zd,Ze,zF,gi,e,aj,hc,hg];refine⟨by omega,?_⟩;simp only[Array.empty_append]at Ak⊢;refine Ak.mono ?_;rintro r A1 ⟨rfl,rfl⟩;rw[ae];simp-implicitDefEqProofs only[go_sem,zS,↓reduceIte,Za,Zb,Zc,reduceCtorEq,ae,zU,zV,Zf,Zg,Zh,Zi,Zd,Ze,zF];refine pY (fun hb=>?_) (fun hb=>?_)
  ·have:l.findIdx? q=some i:=List.findIdx?_eq_some_iff_getElem.2 ⟨hi,hb,fun j hj=>by rw[hno j hj (by omega)];simp⟩;simp only[jS,this]
  ·refine fun j hj uy=>?_
   by_cases e:j=i
   ·subst e;exact hb
   ·exact hno j (by omega) uy
 ·rintro f A -⟨hno,rfl⟩;simp-implicitDefEqProofs only[go_sem,zS,↓reduceIte,Za,Zb,Zc,reduceCtorEq,ae,zU,zV,Zf,Zg,Zh,Zi,Zd,Ze,zF];have:l.findIdx? q=none:=by
   rw[List.findIdx?_eq_none_iff];intro x hx;obtain⟨j,hj,rfl⟩:=List.getElem_of_mem hx;exact hno j hj hj
  simp only[jS,this]
def oP (P:Program) (k:FuncId):Prop:=∀(l:List Int) (q:Int->Bool) (v:Value) (g:FuncId) (ca:Array Value) (H:Hp),aM H v (iL l)->l.length<=1000000->Rv P q l g ca H->ak P k #[v,.func (.func g) #[] ca] H fun r H'=>r=.bool (l.any q)/\H'=H
theorem Kv (hk:an P k (sk ι) sq 2) (hi:uU P (ι.f 353)):oP P k:=by
 intro l q v g ca H hv hl ha;refine ah hk (args:=[_,_]) (by simp) ?_;unfold sk sq kA kB kC kU kc kg kY;simp-implicitDefEqProofs only[go_sem,zS,↓reduceIte,Za,Zb,Zc,reduceCtorEq,ae,zU,zV,Zf,Zg,Zh,Zi,Zd,Ze];refine(hi l q v g ca H hv hl ha).mono ?_;rintro r A ⟨rfl,rfl⟩;rw[ae];simp-implicitDefEqProofs only[go_sem,zS,↓reduceIte,Za,Zb,Zc,reduceCtorEq,ae,zU,zV,Zf,Zg,Zh,Zi,Zd,Ze,kq]
theorem aM.nat {v:Value} {l:List Nat} (h:aM H v (iN l)) (hi:i<l.length):∃b o c,v=.slice (some ⟨b,o,none⟩) l.length c/\Mg.cell H ⟨b,o+i,none⟩=some (.int .i64 ((l[i]:Nat):Int)):=by
 obtain⟨b,o,c,rfl,hc,hl⟩:=h.cells (by intro e;have h:=congrArg List.length e;rw[aW,List.length_nil]at h;omega);rw[aW]at hl⊢;refine⟨b,o,c,rfl,?_⟩;rw[hl i hi];simp[iN,iL,hi]
structure Ue (H:Hp) (x:yj) (y:fj):Prop where
 kd:x.1=(y.kd:Int)
 st:x.2.1=(y.st:Int)
 ch:aM H (oJ x.2.2.1) (iN y.ch)
 sp:aM H (oJ x.2.2.2) (iN y.sp)
theorem Ue.ai (h:Ue H x y) (hk:af (fun _=>False) H H'):Ue H' x y:=⟨h.kd,h.st,h.ch.ag hk (by simp),h.sp.ag hk (by simp)⟩
theorem oK.g {D:Nat->Prop} (h:oK H D x y):Ue H x y:=⟨h.kd,h.st,h.ch,by rw[h.sv,h.sp];exact aM.nil _ _ _⟩
structure GI (H:Hp) (rv:Value) (L:List fj):Prop where
 nd:∃nl,bk lQ 4 H rv nl/\nl.length=L.length/\∀i<L.length,Ue H (nl.getD i AD) (L.getD i cy)
 few:L.length<=2199023255552
theorem GI.ai (h:GI H rv L) (hk:af (fun _=>False) H H'):GI H' rv L:=by
 obtain⟨⟨nl,h1,h2,h3⟩,h4⟩:=h;exact⟨⟨nl,h1.ai hk,h2,fun i hi=>(h3 i hi).ai hk⟩,h4⟩
theorem T4.g {H0:Hp} (h:T4 H0 p fx H rv):∃L σ,GI H rv L/\jU p fx L σ:=by
 obtain⟨nl,L,σ,h1,h2,h3,h4,h5⟩:=h;exact⟨L,σ,⟨⟨nl,h1,h2.1,fun i hi=>(h2.2 i hi).g⟩,h5⟩,h3⟩
def DG (i n:Nat) (y:fj):Prop:=(y.kd=1/\y.sp=[]/\y.ch.length<=4096/\∀k∈y.ch,i<k/\k<n)\/y=⟨2,0,[],[]⟩\/(y.kd=3/\y.st=0/\y.ch=[])
theorem Ab.form {x:fj} (h:Ab p n σ i x):DG i n x:=by
 rcases h with⟨h1,h2,h3,h4,h5,h6⟩|⟨h,_⟩|⟨h1,h2,h3,_⟩
 ·refine .inl ⟨h1,h2,by rw[h5,bO];exact fA _ _,fun k hk=>?_⟩;obtain⟨j,hj,rfl⟩:=List.getElem_of_mem hk;obtain⟨a,b,_⟩:=h6 j hj;rw[List.getD_eq_getElem?_getD,List.getElem?_eq_getElem hj,Option.getD_some]at a b;exact⟨a,b⟩
 ·exact .inr (.inl h)
 ·exact .inr (.inr ⟨h1,h2,h3⟩)
def uV (P:Program) (k:FuncId):Prop:=bB P k=true/\∀(x i n:Int) (b c:Nat) (H:Hp),Bl H b [.int .i64 i]->Bl H c [.int .i64 n]->ak P k #[.int .i64 x,.pointer (some ⟨b,0,none⟩),.pointer (some ⟨c,0,none⟩)] H fun r H'=>r=.bool (decide (x<=i)||decide (x≥n))/\H'=H
theorem GJ (hk:an P k (tt ι) tv 3):uV P k:=by
 refine⟨hk.body,fun x i n b c H B C=>?_⟩;refine ah hk (args:=[_,_,_]) (by simp) ?_;unfold tt tv kA kB kF kC kS kT kU kY;have cb:cell H ⟨b,0,none⟩=some (.int .i64 i):=by rw[B.cell];rfl
 have cc:cell H ⟨c,0,none⟩=some (.int .i64 n):=by rw[C.cell];rfl
 by_cases h:x<=i
 ·simp-implicitDefEqProofs only[go_sem,zS,↓reduceIte,Za,Zb,Zc,reduceCtorEq,ae,zU,zV,Zf,Zg,Zh,Zi,Zd,Ze,zF,cb,cc,h];rfl
 ·simp-implicitDefEqProofs only[go_sem,zS,↓reduceIte,Za,Zb,Zc,reduceCtorEq,ae,zU,zV,Zf,Zg,Zh,Zi,Zd,Ze,zF,cb,cc,h,Bool.false_or]
def oQ (P:Program) (k:FuncId):Prop:=∀(x:yj) (y:fj) (i n:Nat) (H:Hp),Ue H x y->DG i n y->ak P k #[.agg (lQ x).toArray,.int .i64 (i:Int),.int .i64 (n:Int)] H fun r H'=>r=.bool true/\af (fun _=>False) H H'
theorem Kw (hk:an P k (xM ι) xN 3) (h1:uV P (ι.f 432)) (hc:oP P (ι.f 354)):oQ P k:=by
 intro x y i n H hx hf;refine ah hk (args:=[_,_,_]) (by simp) ?_;unfold xM xN kB kF kC kD kG kJ kL kR kT kU kV kg kY;obtain⟨x1,x2,x3,x4⟩:=x;obtain⟨ET,hst,DH,hsp⟩:=hx;simp only at ET hst DH hsp;subst ET hst;simp-implicitDefEqProofs only[go_sem,zS,↓reduceIte,Za,Zb,Zc,reduceCtorEq,zU,zV,Zf,Zg,Zh,Zi,Zd,Ze,zF,lQ];refine al fun H1 b3 e3 z3 B3 K3=>?_;simp-implicitDefEqProofs only[go_sem,zS,↓reduceIte,Za,Zb,Zc,reduceCtorEq,zU,zV,Zf,Zg,Zh,Zi,Zd,Ze,zF];refine al fun H2 b4 e4 z4 B4 K4=>?_;simp-implicitDefEqProofs only[go_sem,zS,↓reduceIte,Za,Zb,Zc,reduceCtorEq,zU,zV,Zf,Zg,Zh,Zi,Zd,Ze,zF];refine al fun H3 b5 e5 z5 B5 K5=>?_;have jv:Bl H3 b3 [.int .u8 (y.kd:Int),.int .i64 (y.st:Int),oJ x3,oJ x4]:=(K4.trans K5).bl B3 (by simp);have mM:Bl H3 b4 [.int .i64 (i:Int)]:=K5.bl B4 (by simp);have nK:Bl H3 b5 [.int .i64 (n:Int)]:=B5;have K:=(K3.trans K4).trans K5;have DH:=DH.ag K (by simp);have hsp:=hsp.ag K (by simp);have c0:cell H3 ⟨b3,0,none⟩=some (.int .u8 (y.kd:Int)):=by rw[jv.cell];rfl
 have c1:cell H3 ⟨b3,1,none⟩=some (.int .i64 (y.st:Int)):=by rw[jv.cell];rfl
 have c2:cell H3 ⟨b3,2,none⟩=some (oJ x3):=by rw[jv.cell];rfl
 have c3:cell H3 ⟨b3,3,none⟩=some (oJ x4):=by rw[jv.cell];rfl
 have l3:aO (oJ x3)=y.ch.length:=by rw[DH.len,aW]
 have l4:aO (oJ x4)=y.sp.length:=by rw[hsp.len,aW]
 have s3:=DH.aq;have s4:=hsp.aq;have sD:((0:Int)==0)=true:=rfl;rcases hf with⟨f1,f2,f3,f4⟩|rfl|⟨f1,f2,f3⟩
 ·have d1:(((1:Nat):Int)==1)=true:=rfl;have la:(y.sp.length:Int)=0:=by rw[f2];rfl
  simp-implicitDefEqProofs only[go_sem,zS,↓reduceIte,Za,Zb,Zc,reduceCtorEq,zU,zV,Zf,Zg,Zh,Zi,Zd,Ze,zF,c0,c1,c2,c3,l3,l4,s3,s4,f1,d1,la,sD];refine(hc (nI y.ch) (fun x=>decide (x<=(i:Int))||decide (x≥(n:Int))) _ _ _ H3 DH (by simp[nI];omega) ⟨h1.1,fun x hx=>?_⟩).mono ?_
  ·exact h1.2 x i n b4 b5 H3 mM nK
  rintro r A ⟨rfl,rfl⟩;have acb:((nI y.ch).any fun x=>decide (x<=(i:Int))||decide (x≥(n:Int)))=false:=by
   rw[List.any_eq_false];intro x hx;unfold nI at hx;rw[List.mem_map]at hx;obtain⟨k,hk,rfl⟩:=hx;have:=f4 k hk;have a1:¬((k:Int)<=(i:Int)):=by omega
   have a2:¬((k:Int)≥(n:Int)):=by omega
   rw[decide_eq_false a1,decide_eq_false a2];simp
  rw[ae];simp-implicitDefEqProofs only[go_sem,zS,↓reduceIte,Za,Zb,Zc,reduceCtorEq,ae,zU,zV,Zf,Zg,Zh,Zi,Zd,Ze,acb];exact K
 ·have d1:(((2:Nat):Int)==1)=false:=rfl;have d2:(((2:Nat):Int)==2)=true:=rfl;have e0:(((0:Nat):Int)==0)=true:=rfl;simp-implicitDefEqProofs only[go_sem,zS,↓reduceIte,Za,Zb,Zc,reduceCtorEq,ae,zU,zV,Zf,Zg,Zh,Zi,Zd,Ze,zF,c0,c1,c2,c3,l3,l4,s3,s4,d1,d2,e0,List.length_nil];exact K
 ·have d1:(((3:Nat):Int)==1)=false:=rfl;have d2:(((3:Nat):Int)==2)=false:=rfl;have d3:(((3:Nat):Int)==3)=true:=rfl;have e0:(((0:Nat):Int)==0)=true:=rfl;rw[f3,List.length_nil]at l3;simp-implicitDefEqProofs only[go_sem,zS,↓reduceIte,Za,Zb,Zc,reduceCtorEq,ae,zU,zV,Zf,Zg,Zh,Zi,Zd,Ze,zF,c0,c1,c2,c3,l3,l4,s3,s4,f1,f2,d1,d2,d3,e0];exact K
structure Kx (L:List fj):Prop where
 ne:L≠[]
 fm:∀i<L.length,DG i L.length (L.getD i cy)
 cnt:∀i,(L.flatMap fj.ch).count i=if 0<i/\i<L.length then 1 else 0
theorem jU.tree (h:jU p fx L σ):Kx L:=⟨h.ne,fun i hi=>(h.ok i hi).form,h.cnt⟩
def lW (n:Nat) (c:List Nat):List Int:=(List.range n).map fun i=>((c.count i:Nat):Int)
theorem tw (n:Nat) (c:List Nat):(lW n c).length=n:=by simp[lW]
theorem Fb (c:List Nat) (h:i<n):(lW n c).getD i 0=((c.count i:Nat):Int):=by simp[lW,List.getD_eq_getElem?_getD,h]
theorem GK (c:List Nat) {k:Nat} (h:k<n):(lW n c).set k (((c.count k:Nat):Int)+1)=lW n (c++[k]):=by
 refine List.ext_getElem (by simp[lW]) fun i h1 h2=>?_;have hi:i<n:=by simpa[lW]using h2
 rw[List.getElem_set];simp only[lW,List.getElem_map,List.getElem_range,List.count_append,List.count_cons,List.count_nil,Nat.zero_add,beq_iff_eq]
 by_cases e:k=i
 ·subst e;simp
 ·rw[if_neg e,if_neg e];simp
theorem DI {nl:List yj} (h:bk lQ 4 H rv nl) (hi:i<nl.length):∃b o c,rv=.slice (some ⟨b,o,none⟩) nl.length c/\Mg.aR H ⟨b,o+i*4,none⟩ 4=some (lQ (nl.getD i AD)).toArray:=by
 obtain⟨b,o,c,e,_,h4⟩:=h.elem xn hi;refine⟨b,o,c,e,?_⟩;rw[h4,List.getD_eq_getElem?_getD,List.getElem?_eq_getElem hi];rfl
def oR (P:Program) (k:FuncId):Prop:=∀(L:List fj) (rv:Value) (H:Hp),GI H rv L->Kx L->ak P k #[.agg #[rv]] H fun r H'=>r=.tuple #[.int .i64 0,.bool true]/\af (fun _=>False) H H'
theorem Ky (hk:an P k (xP ι) xQ 1) (hf:oQ P (ι.f 433)):oR P k:=by
 intro L rv H hR hT;refine qI fun Q hQ=>?_;refine ah hk (args:=[_]) (by simp) ?_;unfold xP xQ kA kB kF kC kD ke kG kH kI kK kJ kL kM kN kO kR kS kT kU kV kc kd kf kg kY kZ;have acd:=hR.few;simp-implicitDefEqProofs only[go_sem,zS,↓reduceIte,Za,Zb,Zc,reduceCtorEq,zU,zV,Zf,Zg,Zh,Zi,Zd,Ze,zF];refine al fun H1 b1 e1 z1 B1 K1=>?_;have cf:Bl H1 b1 [rv]:=B1;obtain⟨nl,KC,uL,hnd⟩:=(hR.ai K1).nd;have c0:cell H1 ⟨b1,0,none⟩=some rv:=by rw[cf.cell];rfl
 have hsl:=KC.aq;have IB:aO rv=L.length:=by rw[KC.len,uL]
 simp-implicitDefEqProofs only[go_sem,zS,↓reduceIte,Za,Zb,Zc,reduceCtorEq,zU,zV,Zf,Zg,Zh,Zi,Zd,Ze,zF,c0,hsl,IB];refine aL L.length [21,6,5,29,2,3,20] rfl rfl (by omega) (by simp-implicitDefEqProofs only[go_sem,zS,↓reduceIte,Za,Zb,Zc,reduceCtorEq,ae,zU,zV,Zf,Zg,Zh,Zi,Zd,Ze]) (by simp-implicitDefEqProofs only[go_sem,zS,↓reduceIte,Za,Zb,Zc,reduceCtorEq,ae,zU,zV,Zf,Zg,Zh,Zi,Zd,Ze]) (fun i g A=>af (fun _=>False) H1 A) (af.refl _ _) ?_ ?_
 ·rintro i g A hi gi gn KA;simp-implicitDefEqProofs only[go_sem,zS,↓reduceIte,Za,Zb,Zc,reduceCtorEq,ae,zU,zV,Zf,Zg,Zh,Zi,Zd,Ze]at gi gn;obtain⟨b,o,c,e,hld⟩:=DI (KC.ai KA) (i:=i) (by omega);have hb:(0:Int)<=(i:Int)/\(i:Int)<(nl.length:Int):=by omega
  simp-implicitDefEqProofs only[go_sem,zS,↓reduceIte,Za,Zb,Zc,reduceCtorEq,zU,zV,Zf,Zg,Zh,Zi,Zd,Ze,zF,gi,e,aj,hb,hld,aB];refine ff (lQ (nl.getD i AD)) (.int .i64 (i:Int)) rfl (by simp-implicitDefEqProofs only[go_sem,zS,↓reduceIte,Za,Zb,Zc,reduceCtorEq,ae,zU,zV,Zf,Zg,Zh,Zi,Zd,Ze]) (by simp-implicitDefEqProofs only[go_sem,zS,↓reduceIte,Za,Zb,Zc,reduceCtorEq,ae,zU,zV,Zf,Zg,Zh,Zi,Zd,Ze]) rfl rfl (List.all_eq_true.2 (qp _)) fun A1 b6 e6 z6 B6 K6=>?_;simp-implicitDefEqProofs only[go_sem,zS,↓reduceIte,Za,Zb,Zc,reduceCtorEq,zU,zV,Zf,Zg,Zh,Zi,Zd,Ze,zF,B6.aD 4 rfl];refine(hf _ _ i L.length A1 (((hnd i hi).ai KA).ai K6) (hT.fm i hi)).mono ?_;rintro r A2 ⟨rfl,lC⟩;rw[ae];simp-implicitDefEqProofs only[go_sem,zS,↓reduceIte,Za,Zb,Zc,reduceCtorEq,ae,zU,zV,Zf,Zg,Zh,Zi,Zd,Ze];exact(KA.trans K6).trans lC
 ·rintro g A gi KA;have Hh:=KA.bl cf (by simp);have c0:cell A ⟨b1,0,none⟩=some rv:=by rw[Hh.cell];rfl
  simp-implicitDefEqProofs only[go_sem,zS,↓reduceIte,Za,Zb,Zc,reduceCtorEq,zU,zV,Zf,Zg,Zh,Zi,Zd,Ze,zF,c0,hsl,IB];refine⟨⟨by omega,by omega,by unfold maxLen;omega⟩,?_⟩;refine aG fun A1 b7 e7 z7 B7 K7=>?_;have B7:Bl A1 b7 (iL (lW L.length [])):=by
   rw[dg,qR]at B7;have:List.replicate L.length (0:Int)=lW L.length []:=by
    refine List.ext_getElem (by simp[lW]) fun i h1 h2=>?_;simp[lW]
   rw[this]at B7;exact B7
  have Ty:=KA.trans K7;have ace:=K7.bl Hh (by simp);have c01:cell A1 ⟨b1,0,none⟩=some rv:=by rw[ace.cell];rfl
  have hb7:H1.size<=b7:=by have:=KA.size;omega
  simp-implicitDefEqProofs only[go_sem,zS,↓reduceIte,Za,Zb,Zc,reduceCtorEq,zU,zV,Zf,Zg,Zh,Zi,Zd,Ze,zF,c01,hsl,IB];have nW:∀q,(fun q=>q=b7) q->¬q<H1.size:=fun q e=>by have e:q=b7:=e;omega
  refine aL L.length [38,9,42,43,44,45,11,37] rfl rfl (by omega) (by simp-implicitDefEqProofs only[go_sem,zS,↓reduceIte,Za,Zb,Zc,reduceCtorEq,ae,zU,zV,Zf,Zg,Zh,Zi,Zd,Ze]) (by simp-implicitDefEqProofs only[go_sem,zS,↓reduceIte,Za,Zb,Zc,reduceCtorEq,ae,zU,zV,Zf,Zg,Zh,Zi,Zd,Ze]) (fun i g X=>Bl X b7 (iL (lW L.length ((L.take i).flatMap fj.ch)))/\af (fun q=>q=b7) A1 X) ⟨B7,af.refl _ _⟩ ?_ ?_
  ·rintro i g2 X hi gi gn ⟨BX,KX⟩;simp-implicitDefEqProofs only[go_sem,zS,↓reduceIte,Za,Zb,Zc,reduceCtorEq,ae,zU,zV,Zf,Zg,Zh,Zi,Zd,Ze]at gi gn;have lh:af (fun _=>False) H1 X:=Ty.trans' KX fun q hq e=>by omega
   obtain⟨b,o,c,e,hld⟩:=DI (KC.ai lh) (i:=i) (by omega);have hb:(0:Int)<=(i:Int)/\(i:Int)<(nl.length:Int):=by omega
   have Hi:=(hnd i hi).ai lh;have hfm:=hT.fm i hi;have hlt:∀k∈(L.getD i cy).ch,k<L.length:=fun k hk=>by
    rcases hfm with⟨_,_,_,f4⟩|f|⟨_,_,f3⟩
    ·exact(f4 k hk).2
    ·rw[f]at hk;cases hk
    ·rw[f3]at hk;cases hk
   have EP:(L.take (i+1)).flatMap fj.ch=(L.take i).flatMap fj.ch++(L.getD i cy).ch:=by
    rw[List.take_succ_eq_append_getElem hi,List.flatMap_append,List.getD_eq_getElem?_getD,List.getElem?_eq_getElem hi];simp
   obtain⟨pre,hpre⟩:∃pre,pre=(L.take i).flatMap fj.ch:=⟨_,rfl⟩
   rw[<-hpre]at BX EP;obtain⟨x,hx⟩:∃x,x=nl.getD i AD:=⟨_,rfl⟩
   have hold:∀q,aV (oJ (nl.getD i AD).2.2.1) q->q<H1.size:=fun q hq=>(hnd i hi).ch.bE hq;rw[<-hx]at Hi hld hold;obtain⟨y,hy⟩:∃y,y=L.getD i cy:=⟨_,rfl⟩
   rw[<-hy]at Hi hlt EP;obtain⟨x1,x2,x3,x4⟩:=x;have DH:=Hi.ch;simp only at DH;simp-implicitDefEqProofs only[go_sem,zS,↓reduceIte,Za,Zb,Zc,reduceCtorEq,zU,zV,Zf,Zg,Zh,Zi,Zd,Ze,zF,gi,e,aj,hb,hld,aB];refine bf (lQ (x1,x2,x3,x4)) (by simp-implicitDefEqProofs only[go_sem,zS,↓reduceIte,Za,Zb,Zc,reduceCtorEq,ae,zU,zV,Zf,Zg,Zh,Zi,Zd,Ze]) rfl rfl (List.all_eq_true.2 (qp _)) fun X1 b9 e9 z9 B9 K9=>?_;have c2:cell X1 ⟨b9,2,none⟩=some (oJ x3):=by rw[B9.cell];rfl
   have Uf:=DH.ag K9 (by simp);have h3s:=Uf.aq;have h3l:aO (oJ x3)=y.ch.length:=by rw[Uf.len,aW]
   have BX1:=K9.bl BX (by simp);have adr:y.ch.length<=4096:=by
    rcases hfm with⟨_,_,f3,f4⟩|f|⟨_,_,f3⟩
    ·rw[hy];exact f3
    ·rw[hy,f];exact Nat.zero_le _
    ·rw[hy,f3];exact Nat.zero_le _
   have hb9:b9≠b7:=by have:=BX.lt;omega
   simp-implicitDefEqProofs only[go_sem,zS,↓reduceIte,Za,Zb,Zc,reduceCtorEq,zU,zV,Zf,Zg,Zh,Zi,Zd,Ze,zF,c2,h3s,h3l];refine aL y.ch.length [45,11,44] rfl rfl (by omega) (by simp-implicitDefEqProofs only[go_sem,zS,↓reduceIte,Za,Zb,Zc,reduceCtorEq,ae,zU,zV,Zf,Zg,Zh,Zi,Zd,Ze]) (by simp-implicitDefEqProofs only[go_sem,zS,↓reduceIte,Za,Zb,Zc,reduceCtorEq,ae,zU,zV,Zf,Zg,Zh,Zi,Zd,Ze]) (fun j g Y=>Bl Y b7 (iL (lW L.length (pre++y.ch.take j)))/\af (fun q=>q=b7) X1 Y) ⟨by rw[List.take_zero,List.append_nil];exact BX1,af.refl _ _⟩ ?_ ?_
   ·rintro j g3 Y hj gj gm ⟨BY,KY⟩;simp-implicitDefEqProofs only[go_sem,zS,↓reduceIte,Za,Zb,Zc,reduceCtorEq,ae,zU,zV,Zf,Zg,Zh,Zi,Zd,Ze]at gj gm;have Vb:y.ch[j]∈y.ch:=List.getElem_mem _;have hkl:=hlt _ Vb;have hjs:(y.ch.take (j+1))=y.ch.take j++[y.ch[j]]:=List.take_succ_eq_append_getElem hj;obtain⟨bc,oc,cc,ec,hcc⟩:=(Uf.ag KY fun q hq e=>by have e:q=b7:=e;rw[e]at hq;have:=hold _ hq;omega).nat hj;have XE:(0:Int)<=(j:Int)/\(j:Int)<(y.ch.length:Int):=by omega
    generalize y.ch[j]=k at*;have Fc:(0:Int)<=(k:Int)/\(k:Int)<(L.length:Int):=by omega
    have cv:=Fb (n:=L.length) (pre++y.ch.take j) hkl;have cs:=GK (pre++y.ch.take j) hkl;have cle:(pre++y.ch.take j).count k<=1:=by
     have hc:=hT.cnt k;have e1:L.flatMap fj.ch=(pre++y.ch)++(L.drop (i+1)).flatMap fj.ch:=by rw[<-EP,<-List.flatMap_append,List.take_append_drop]
     rw[e1,List.count_append,List.count_append]at hc;have:=(List.take_sublist j y.ch).count_le k;rw[List.count_append]
     split at hc<;>omega
    obtain⟨cur,XF⟩:∃cur,cur=pre++y.ch.take j:=⟨_,rfl⟩
    rw[<-XF]at BY cv cs cle;have ck:cell Y ⟨b7,k,none⟩=some (.int .i64 ((cur.count k:Nat):Int)):=by
     rw[BY.cell,du _ _ (by rw[tw];exact hkl),cv]
    have tk:=BY.br (o:=k) (by rw[aA,tw];exact hkl);have w1:IntKind.i64.wrap (((cur.count k:Nat):Int)+1)=((cur.count k:Nat):Int)+1:=IntWalk.i64_in _ (by omega);have BY2:=BY.ax k (.int .i64 (((cur.count k:Nat):Int)+1));rw[iW,cs]at BY2;have KS:af (fun q=>q=b7) Y (ax Y ⟨b7,k,none⟩ (.int .i64 (((cur.count k:Nat):Int)+1))):=(af.refl _ _).ax _ (.inl rfl);simp-implicitDefEqProofs only[go_sem,zS,↓reduceIte,Za,Zb,Zc,reduceCtorEq,zU,zV,Zf,Zg,Zh,Zi,Zd,Ze,zF,gj,ec,hcc,XE,Fc,aj,Nat.mul_one,Nat.zero_add,ck,w1,tk];rw[ae];simp-implicitDefEqProofs only[go_sem,zS,↓reduceIte,Za,Zb,Zc,reduceCtorEq,ae,zU,zV,Zf,Zg,Zh,Zi,Zd,Ze];exact⟨by rw[hjs,<-List.append_assoc,<-XF];exact BY2,KY.trans KS⟩
   ·rintro g3 Y gj ⟨BY,KY⟩;rw[List.take_length]at BY;simp-implicitDefEqProofs only[go_sem,zS,↓reduceIte,Za,Zb,Zc,reduceCtorEq,zU,zV,Zf,Zg,Zh,Zi,Zd,Ze,zF];exact⟨by rw[EP];exact BY,(KX.trans K9.any).trans KY⟩
  ·rintro g2 X gi ⟨BX,KX⟩;rw[List.take_length]at BX;have ZJ:af (fun _=>False) H X:=(K1.trans Ty).trans' KX fun q hq e=>by have:=K1.size;omega
   simp-implicitDefEqProofs only[go_sem,zS,↓reduceIte,Za,Zb,Zc,reduceCtorEq,zU,zV,Zf,Zg,Zh,Zi,Zd,Ze,zF];refine aL L.length [59,12,13,76,2,3,58] rfl rfl (by omega) (by simp-implicitDefEqProofs only[go_sem,zS,↓reduceIte,Za,Zb,Zc,reduceCtorEq,ae,zU,zV,Zf,Zg,Zh,Zi,Zd,Ze]) (by simp-implicitDefEqProofs only[go_sem,zS,↓reduceIte,Za,Zb,Zc,reduceCtorEq,ae,zU,zV,Zf,Zg,Zh,Zi,Zd,Ze]) (fun j g Y=>Y=X) rfl ?_ ?_
   ·rintro j g3 Y hj gj gm rfl;simp-implicitDefEqProofs only[go_sem,zS,↓reduceIte,Za,Zb,Zc,reduceCtorEq,ae,zU,zV,Zf,Zg,Zh,Zi,Zd,Ze]at gj gm;have hc:=hT.cnt j;have ck:cell Y ⟨b7,j,none⟩=some (.int .i64 (((L.flatMap fj.ch).count j:Nat):Int)):=by
     rw[BX.cell,du _ _ (by rw[tw];exact hj),Fb _ hj]
    have hb:(0:Int)<=(j:Int)/\(j:Int)<(L.length:Int):=by omega
    by_cases h0:0<j
    ·rw[if_pos ⟨h0,hj⟩]at hc;rw[hc]at ck;have d1:decide ((j:Int)>0)=true:=decide_eq_true (by omega);have d2:((j:Int)==0)=false:=beq_eq_false_iff_ne.2 (by omega);have d3:((((1:Nat):Int))!=1)=false:=rfl;simp-implicitDefEqProofs only[go_sem,zS,↓reduceIte,Za,Zb,Zc,reduceCtorEq,ae,zU,zV,Zf,Zg,Zh,Zi,Zd,Ze,zF,gj,hb,aj,ck,d1,d2,d3]
    ·rw[if_neg (fun h=>h0 h.1)]at hc;rw[hc]at ck;have hj0:j=0:=by omega
     subst hj0;have d1:decide ((0:Int)>0)=false:=by decide
     have d2:((0:Int)==0)=true:=rfl;have d3:((0:Int)!=0)=false:=rfl;have hb2:(0:Int)<(L.length:Int):=by omega
     have tz:Int.toNat 0=0:=rfl;simp-implicitDefEqProofs only[go_sem,zS,↓reduceIte,Za,Zb,Zc,reduceCtorEq,ae,zU,zV,Zf,Zg,Zh,Zi,Zd,Ze,zF,gj,hb2,tz,aj,ck,d1,d2,d3,Int.natCast_zero,Int.cast_ofNat_Int]
   ·rintro g3 Y gj rfl;have hL0:0<L.length:=by have:=hT.ne;cases L with|nil=>exact absurd rfl this|cons a l=>simp
    have d1:decide ((L.length:Int)>0)=true:=decide_eq_true (by omega);simp-implicitDefEqProofs only[go_sem,zS,↓reduceIte,Za,Zb,Zc,reduceCtorEq,ae,zU,zV,Zf,Zg,Zh,Zi,Zd,Ze,zF,d1];rw[hQ];exact⟨rfl,ZJ⟩
end Go.Mg
namespace Go.Mg
open Go Go.RowKit
def DJ (ι:aC):S:=
 kY [kR 3 (ι.t 194) 1,kC 4 (.int .i64 0)] (.seq (kY [kA 6 0,kV 7 (.m (.lenl (.t 6))),kC 8 (.int .i64 0)] (.blk 0 (.loop (kY [kH 9 8 7] (.seq (.ite (.v 9) .skip (.exit 0)) (.seq (.blk 1 (kY [kA 10 8,kB 5 10] (kY [kM 11 2 3,kA 12 0,kA 13 5,kI 14 2 12 13,kN 15 2 14,kV 16 (.m (.eqa false .i64 2 (.t 11) (.t 15)))] (.ite (.v 16) (kY [kA 17 5,kB 4 17] .ret) .skip)))) (.reg [ke 18 8,kB 8 18]))))))) (kY [kC 4 (.int .i64 (-1))] .ret))
def DK:List RV:=[.t 4]
def DL (ι:aC):S:=
 kY [kR 3 (ι.t 194) 1,kC 4 (.bool false)] (kY [kA 5 0,kM 6 2 3,kc 7 (kg (ι.f 226) [.t 5,.t 6]),kU 8 (.cm .geq .i64 (.t 7) (.c (.int .i64 0))),kB 4 8] .ret)
def DM:List RV:=[.t 4]
def xR (ι:aC):S:=
 kY [kR 4 (ι.t 358) 0,kR 5 (ι.t 368) 1,kC 8 (.bool false)] (.seq (kY [kG 12 1 5,kD 13 12,kU 14 (.cm .lss .i64 (.t 13) (.c (.int .i64 0))),kF 15 14,kT 16 15 false (.fa 1 (.v 5)),kT 17 15 false (.ld (.t 16)),kS 18 15 false 2,kT 19 15 false (.m (.lenl (.t 18))),kT 20 15 false (.cm .geq .i64 (.t 17) (.t 19)),kU 21 (.pick (.t 15) (.c (.bool true)) (.t 20)),kF 22 21,kS 23 22 false 2,kT 24 22 false (.fa 1 (.v 5)),kT 25 22 false (.ld (.t 24)),kT 26 22 false (.is 1 (.t 23) (.t 25)),kT 27 22 false (.ld (.t 26)),kT 28 22 false (.cm .neq .i64 (.t 27) (.c (.int .i64 0))),kV 29 (.pick (.t 22) (.c (.bool true)) (.t 28))] (.ite (.v 29) (kY [kC 8 (.bool false)] .ret) .skip)) (kY [kG 30 0 4,kD 31 30,kG 32 1 5,kD 33 32,kI 34 1 31 33,kN 35 1 34,kc 36 (kg (ι.f 139) [.t 35]),kB 9 36] (.seq (kY [kA 37 9,kL 38 37,kG 39 2 5,kD 40 39,kL 41 40,kV 42 (.cm .neq .i64 (.t 38) (.t 41))] (.ite (.v 42) (kY [kC 8 (.bool false)] .ret) .skip)) (.seq (kY [kG 43 2 5,kV 44 (.ld (.t 43)),kO 45 44,kC 46 (.int .i64 0)] (.blk 0 (.loop (kY [kH 47 46 45] (.seq (.ite (.v 47) .skip (.exit 0)) (.seq (.blk 1 (kY [kA 48 46,kK 49 1 44 46,kD 50 49,kB 10 48,kB 11 50] (kY [kA 51 3,kA 52 11,kA 53 2,kc 54 (kg (ι.f 159) [.t 53]),kI 55 1 51 52,kf (.st (.t 55) (.t 54))] (.reg [kA 56 3,kA 57 11,kI 58 1 56 57,kD 59 58,kG 60 1 5,kD 61 60,kA 62 9,kA 63 10,kI 64 1 62 63,kD 65 64,kI 66 1 59 61,kf (.st (.t 66) (.t 65))])))) (.reg [ke 67 46,kB 46 67]))))))) (kY [kC 8 (.bool true)] .ret)))))
def xS:List RV:=[.t 8]
def xT (ι:aC):S:=
 kY [kR 3 (ι.t 358) 0,kC 6 (.bool false)] (kY [kd 7 (.new (ι.t 128) #[kZ])] (.seq (kY [kV 12 (.mv (.v 1)),kO 13 12,kC 14 (.int .i64 0)] (.blk 0 (.loop (kY [kH 15 14 13] (.seq (.ite (.v 15) .skip (.exit 0)) (.seq (.blk 1 (kY [kA 16 14,kK 17 1 12 14,kD 18 17,kB 8 16,kB 9 18] (.seq (kY [kA 19 9,kU 20 (.cm .lss .i64 (.t 19) (.c (.int .i64 0))),kF 21 20,kS 22 21 false 9,kS 23 21 false 2,kT 24 21 false (.m (.lenl (.t 23))),kT 25 21 false (.cm .geq .i64 (.t 22) (.t 24)),kU 26 (.pick (.t 21) (.c (.bool true)) (.t 25)),kF 27 26,kS 28 27 false 2,kS 29 27 false 9,kT 30 27 false (.is 1 (.t 28) (.t 29)),kT 31 27 false (.ld (.t 30)),kT 32 27 false (.cm .neq .i64 (.t 31) (.c (.int .i64 0))),kV 33 (.pick (.t 27) (.c (.bool true)) (.t 32))] (.ite (.v 33) (kY [kC 6 (.bool false)] .ret) .skip)) (kY [kM 34 1 7,kG 35 0 3,kD 36 35,kA 37 9,kI 38 1 36 37,kN 39 1 38,kc 40 (kg (ι.f 132) [.t 34,.t 39]),kf (.stn 1 (.v 7) (.t 40))] (kY [kA 41 1,kA 42 8,kV 43 (.m (.sls 1 (.t 41) .none (.some (.t 42)))),kO 44 43,kC 45 (.int .i64 0)] (.blk 2 (.loop (kY [kH 46 45 44] (.seq (.ite (.v 46) .skip (.exit 2)) (.seq (.blk 3 (kY [kK 47 1 43 45,kD 48 47,kB 11 48] (kY [kA 49 11,kA 50 9,kU 51 (.cm .eql .i64 (.t 49) (.t 50)),kF 52 51,kT 53 52 false (.fa 1 (.v 3)),kT 54 52 false (.ld (.t 53)),kS 55 52 false 11,kS 56 52 false 9,kT 57 52 false (.m (.gz #[.int .i64 0,.int .i64 0] [(0,(1,.t 55)),(1,(1,.t 56))])),.ge (.t 58) (.t 52) false (kg (ι.f 227) [.t 54,.t 57]),kT 59 52 false (.not (.t 58)),kT 60 52 false (.mv (.t 59)),kT 61 60 true (.fa 1 (.v 3)),kT 62 60 true (.ld (.t 61)),kS 63 60 true 9,kS 64 60 true 11,kT 65 60 true (.m (.gz #[.int .i64 0,.int .i64 0] [(0,(1,.t 63)),(1,(1,.t 64))])),.ge (.t 66) (.t 60) true (kg (ι.f 227) [.t 62,.t 65]),kT 67 60 true (.not (.t 66)),kT 68 52 false (.pick (.t 60) (.t 67) (.c (.bool false))),kV 69 (.pick (.t 52) (.c (.bool true)) (.t 68))] (.ite (.v 69) (kY [kC 6 (.bool false)] .ret) .skip)))) (.reg [ke 70 45,kB 45 70]))))))))))) (.reg [ke 71 14,kB 14 71]))))))) (kY [kM 72 1 7,kc 73 (kg (ι.f 135) [.t 72]),kA 74 1,kL 75 74,kU 76 (.cm .lss .i64 (.t 73) (.t 75)),kB 6 76] .ret)))
def xU:List RV:=[.t 6]
def Al (x:eH) (l:List eH):Int:=match l.findIdx? (fun u=>decide (u=x))with|none=>-1|some i=>(i:Int)
theorem GL (x:eH) (l:List eH):decide (Al x l≥0)=decide (x∈l):=by
 unfold Al
 cases h:l.findIdx? (fun u=>decide (u=x))with
 |none=>
  rw[List.findIdx?_eq_none_iff]at h;have:x∉l:=fun hm=>by have:=h x hm;simp at this
  rw[decide_eq_false this];rfl
 |some i=>
  obtain⟨hi,h1,_⟩:=List.findIdx?_eq_some_iff_getElem.1 h;have:x∈l:=by have e:=of_decide_eq_true h1;rw[<-e];exact List.getElem_mem _
  rw[decide_eq_true this];exact decide_eq_true (by show(i:Int)≥0;omega)
def uW (P:Program) (k:FuncId):Prop:=∀(l:List eH) (v:Value) (x:eH) (H:Hp),nT H v l->l.length<=1000000->ak P k #[v,.agg #[.int .i64 x.1,.int .i64 x.2]] H fun r H'=>r=.int .i64 (Al x l)/\af (fun _=>False) H H'
theorem XG (x b:eH):([x.1,x.2]==[b.1,b.2])=decide (b=x):=by
 obtain⟨x1,x2⟩:=x;obtain⟨b1,b2⟩:=b;rw[Bool.eq_iff_iff];simp;omega
variable {P:Program} {ι:aC} {k:FuncId}
theorem KE (hk:an P k (DJ ι) DK 2):uW P k:=by
 intro l v x H hv QX;refine ah hk (args:=[_,_]) (by simp) ?_;unfold DJ DK kA kB kC ke kH kI kM kN kR kV kY;simp-implicitDefEqProofs only[go_sem,zS,↓reduceIte,Za,Zb,Zc,reduceCtorEq,zU,zV,Zf,Zg,Zh,Zi,Zd,Ze,zF,aT];refine al fun H1 b1 e1 z1 B1 K1=>?_;have hv1:=hv.ai K1;simp-implicitDefEqProofs only[go_sem,zS,↓reduceIte,Za,Zb,Zc,reduceCtorEq,zU,zV,Zf,Zg,Zh,Zi,Zd,Ze,hv.aq,hv.len];have hb1:aR H1 ⟨b1,0,none⟩ 2=some #[.int .i64 x.1,.int .i64 x.2]:=B1.aD 2 rfl;refine aL l.length [9,5,16,4,8] rfl rfl (by omega) (by simp-implicitDefEqProofs only[go_sem,zS,↓reduceIte,Za,Zb,Zc,reduceCtorEq,ae,zU,zV,Zf,Zg,Zh,Zi,Zd,Ze]) (by simp-implicitDefEqProofs only[go_sem,zS,↓reduceIte,Za,Zb,Zc,reduceCtorEq,ae,zU,zV,Zf,Zg,Zh,Zi,Zd,Ze]) (fun i g A=>(∀j<i,∀hj:j<l.length,l[j]≠x)/\A=H1) ⟨fun j h=>by omega,rfl⟩ ?_ ?_
 ·rintro i f A hi gi gn ⟨hno,rfl⟩;simp-implicitDefEqProofs only[go_sem,zS,↓reduceIte,Za,Zb,Zc,reduceCtorEq,ae,zU,zV,Zf,Zg,Zh,Zi,Zd,Ze]at gi gn;obtain⟨pb,po,pc,rfl,QZ,hld⟩:=hv1.elem iX hi;have cP:aR A ⟨pb,po+i*2,none⟩ 2=some #[.int .i64 l[i].1,.int .i64 l[i].2]:=hld;have F8:(∀y∈(#[Value.int .i64 x.1,Value.int .i64 x.2]:Array Value),gy .i64 y)/\∀y∈(#[Value.int .i64 l[i].1,Value.int .i64 l[i].2]:Array Value),gy .i64 y:=⟨by simp[gy],by simp[gy]⟩
  have hb:(0:Int)<=(i:Int)/\(i:Int)<(l.length:Int):=by omega
  have e:=XG x l[i]
  by_cases h:l[i]=x
  ·rw[decide_eq_true h]at e;have hr:l.findIdx? (fun u=>decide (u=x))=some i:=List.findIdx?_eq_some_iff_getElem.2 ⟨hi,decide_eq_true h,fun j hj=>by simpa using hno j hj (by omega)⟩;simp-implicitDefEqProofs only[go_sem,zS,↓reduceIte,Za,Zb,Zc,reduceCtorEq,ae,zU,zV,Zf,Zg,Zh,Zi,Zd,Ze,zF,gi,hb,aj,aB,cP,hb1,e,Al,hr];exact⟨F8,K1⟩
  ·rw[decide_eq_false h]at e;simp-implicitDefEqProofs only[go_sem,zS,↓reduceIte,Za,Zb,Zc,reduceCtorEq,ae,zU,zV,Zf,Zg,Zh,Zi,Zd,Ze,zF,gi,hb,aj,aB,cP,hb1,e];refine⟨F8,fun j hj uy=>?_⟩
   by_cases e2:j=i
   ·subst e2;exact h
   ·exact hno j (by omega) uy
 ·rintro f A -⟨hno,rfl⟩;have hr:l.findIdx? (fun u=>decide (u=x))=none:=List.findIdx?_eq_none_iff.2 fun y hy=>by
   obtain⟨j,hj,rfl⟩:=List.getElem_of_mem hy;simpa using hno j hj hj
  simp-implicitDefEqProofs only[go_sem,zS,↓reduceIte,Za,Zb,Zc,reduceCtorEq,ae,zU,zV,Zf,Zg,Zh,Zi,Zd,Ze,zF,Al,hr];exact K1
def oV (P:Program) (k:FuncId):Prop:=∀(l:List eH) (v:Value) (x:eH) (H:Hp),nT H v l->l.length<=1000000->ak P k #[v,.agg #[.int .i64 x.1,.int .i64 x.2]] H fun r H'=>r=.bool (decide (x∈l))/\af (fun _=>False) H H'
theorem KI (hk:an P k (DL ι) DM 2) (hi:uW P (ι.f 226)):oV P k:=by
 intro l v x H hv QX;refine ah hk (args:=[_,_]) (by simp) ?_;unfold DL DM kA kB kC kM kR kU kc kg kY;simp-implicitDefEqProofs only[go_sem,zS,↓reduceIte,Za,Zb,Zc,reduceCtorEq,zU,zV,Zf,Zg,Zh,Zi,Zd,Ze,zF,aT];refine al fun H1 b1 e1 z1 B1 K1=>?_;have hb1:aR H1 ⟨b1,0,none⟩ 2=some #[.int .i64 x.1,.int .i64 x.2]:=B1.aD 2 rfl;simp-implicitDefEqProofs only[go_sem,zS,↓reduceIte,Za,Zb,Zc,reduceCtorEq,zU,zV,Zf,Zg,Zh,Zi,Zd,Ze,aB,hb1];refine(hi l v x H1 (hv.ai K1) QX).mono ?_;rintro r H2 ⟨rfl,K2⟩;rw[ae];simp-implicitDefEqProofs only[go_sem,zS,↓reduceIte,Za,Zb,Zc,reduceCtorEq,ae,zU,zV,Zf,Zg,Zh,Zi,Zd,Ze,GL];exact K1.trans K2
structure acf (P:Program) (ι:aC):Prop where
 lis:kn P ι (ι.f 139)
 cln:cD P (ι.f 159)
def tx (P:Program) (ι:aC) (k:FuncId):Prop:=∀(p:eT) (fx s:List Int) (x:yj) (y:fj) (σ:Nat->List Int) (pv sv:Value) (ws:List Value) (sb:Nat) (H0 H:Hp),aU ι H0->dE H0 pv p fx->bP p->Ue H0 x y->af (fun _=>False) H0 H->H0.size<=sb->aM H sv (iL s)->(∀q,aV sv q->q≠sb)->s.length=p.el.length→
 Bl H sb ws->y.st<s.length->s.getD y.st 0=0->y.ch.length=(aJ (bM p y.st)).length->(∀j<y.ch.length,y.ch.getD j 0<ws.length/\σ (y.ch.getD j 0)=s.set y.st (((aJ (bM p y.st)).getD j 0:Nat):Int))→
 ak P k #[pv,.agg (lQ x).toArray,sv,.slice (some ⟨sb,0,none⟩) ws.length ws.length] H fun r H'=>r=.bool true/\∃uX,uX.length=ws.length/\Bl H' sb uX/\af (fun q=>q=sb) H H'/\(∀j,j∉y.ch->uX.getD j undef=ws.getD j undef)/\∀c∈y.ch,aM H' (uX.getD c undef) (iL (σ c))/\∀q,aV (uX.getD c undef) q->q≠sb
theorem KJ (hk:an P k (xR ι) xS 4) (c:acf P ι):tx P ι k:=by
 intro p fx s x y σ pv sv ws sb H0 H hT hP hG hx K0 FA hs hsn hsl hB h1 h2 h3 h4;refine qI fun Q hQ=>?_;refine ah hk (args:=[_,_,_,_]) (by simp) ?_;unfold xR xS kA kB kF kC kD ke kG kH kI kK kL kN kO kR kS kT kU kV kc kf kg kY;obtain⟨el,di,sa,mo,fv,vs,ms,rfl,hp⟩:=hP;obtain⟨x1,x2,x3,x4⟩:=x;obtain⟨ET,hst,DH,hsp⟩:=hx;simp only at ET hst DH hsp;subst ET hst;have hgn:=hG.n;simp-implicitDefEqProofs only[go_sem,zS,↓reduceIte,Za,Zb,Zc,reduceCtorEq,zU,zV,Zf,Zg,Zh,Zi,Zd,Ze,zF,lQ];refine al fun H1 b4 e4 z4 B4 K4=>?_;simp-implicitDefEqProofs only[go_sem,zS,↓reduceIte,Za,Zb,Zc,reduceCtorEq,zU,zV,Zf,Zg,Zh,Zi,Zd,Ze,zF];refine al fun H2 b5 e5 z5 B5 K5=>?_;have mM:Bl H2 b4 [el,di,sa,mo,fv]:=K5.bl B4 (by simp);have nK:Bl H2 b5 [.int .u8 (y.kd:Int),.int .i64 (y.st:Int),oJ x3,oJ x4]:=B5;have cG:=(K0.trans K4).trans K5;have hs2:=(hs.ag K4 (by simp)).ag K5 (by simp);have c1:cell H2 ⟨b5,1,none⟩=some (.int .i64 (y.st:Int)):=by rw[nK.cell];rfl
 have c2:cell H2 ⟨b5,2,none⟩=some (oJ x3):=by rw[nK.cell];rfl
 have c0:cell H2 ⟨b4,0,none⟩=some el:=by rw[mM.cell];rfl
 have XH:=hs2.aq;have Py:aO sv=s.length:=by rw[hs2.len,aA]
 obtain⟨bs,os,cs,esv,hcs⟩:=hs2.TN h1;have gX:s[y.st]=0:=by rw[List.getD_eq_getElem?_getD,List.getElem?_eq_getElem h1]at h2;exact h2
 rw[gX]at hcs;have d1:decide ((y.st:Int)<0)=false:=decide_eq_false (by omega);have d2:decide ((y.st:Int)≥(s.length:Int))=false:=decide_eq_false (by omega);have d3:((0:Int)!=0)=false:=rfl;have XI:(0:Int)<=(y.st:Int)/\(y.st:Int)<(s.length:Int):=by omega
 have Wn:=hp.ai cG;have hvl:=hp.el;obtain⟨eb,eo,ec,e,hld⟩:=Wn.e.ld1 (i:=y.st) (by omega);have hS:=Wn.es y.st (by omega);have Ug:(0:Int)<=(y.st:Int)/\(y.st:Int)<(vs.length:Int):=by omega
 simp-implicitDefEqProofs only[go_sem,zS,↓reduceIte,Za,Zb,Zc,reduceCtorEq,zU,zV,Zf,Zg,Zh,Zi,Zd,Ze,zF,c1,c2,c0,XH,Py,esv,d1,d2,d3,XI,aj,hcs,e,Ug,hld,aB];refine(c.lis _ _ H2 (hT.ag cG) hS).mono ?_;rintro lv H3 ⟨OL,ol,K3⟩;have NQ:(bL (bM p y.st)).length=y.ch.length:=by simp[bL,h3]
 have uL:aO lv=y.ch.length:=by rw[OL.sl.len,NQ]
 have acg:=OL.sl.aq;have Vq:=K3.bl nK (by simp);have c13:cell H3 ⟨b5,1,none⟩=some (.int .i64 (y.st:Int)):=by rw[Vq.cell];rfl
 have c23:cell H3 ⟨b5,2,none⟩=some (oJ x3):=by rw[Vq.cell];rfl
 have ew:=cG.trans K3;have Uh:=DH.ag ew (by simp);have ach:=Uh.aq;have aci:aO (oJ x3)=y.ch.length:=by rw[Uh.len,aW]
 have d4:(((y.ch.length:Nat):Int)!=((y.ch.length:Nat):Int))=false:=bne_self_eq_false _;have MX:=hs2.ag K3 (by simp);have BH3:=((K4.trans K5).trans K3).bl hB (by simp);have ads:=hB.lt;have s4:=K4.size;have s5:=K5.size;have s3:=K3.size;have YY:y.ch.length<=4096:=by rw[h3,bO];exact fA _ _
 rw[esv]at MX hsn XH Py;rw[ae];simp-implicitDefEqProofs only[go_sem,zS,↓reduceIte,Za,Zb,Zc,reduceCtorEq,zU,zV,Zf,Zg,Zh,Zi,Zd,Ze,zF,c13,c23,acg,uL,ach,aci,d4];refine aL y.ch.length [47,10,11,46] rfl rfl (by omega) (by simp-implicitDefEqProofs only[go_sem,zS,↓reduceIte,Za,Zb,Zc,reduceCtorEq,ae,zU,zV,Zf,Zg,Zh,Zi,Zd,Ze]) (by simp-implicitDefEqProofs only[go_sem,zS,↓reduceIte,Za,Zb,Zc,reduceCtorEq,ae,zU,zV,Zf,Zg,Zh,Zi,Zd,Ze]) (fun i g A=>∃uX,uX.length=ws.length/\Bl A sb uX/\af (fun q=>q=sb) H3 A/\(∀j,j∉y.ch.take i->uX.getD j undef=ws.getD j undef)/\∀c∈y.ch.take i,aM A (uX.getD c undef) (iL (σ c))/\∀q,aV (uX.getD c undef) q->q≠sb) ?_ ?_ ?_
 ·exact⟨ws,rfl,BH3,af.refl _ _,fun _ _=>rfl,fun c hc=>by rw[List.take_zero]at hc;cases hc⟩
 ·rintro i g A hi gi gn ⟨uX,AA,BA,KA,hsame,hset⟩;simp-implicitDefEqProofs only[go_sem,zS,↓reduceIte,Za,Zb,Zc,reduceCtorEq,ae,zU,zV,Zf,Zg,Zh,Zi,Zd,Ze]at gi gn;have sA:=KA.size;have hcA:aM A (oJ x3) (iN y.ch):=Uh.ag KA fun q hq e=>by
   have e:q=sb:=e;have h9:q<H0.size:=DH.bE hq;omega
  obtain⟨bc,oc,cc,ec2,hcc⟩:=hcA.nat hi;obtain⟨hk4,Hm⟩:=h4 i hi;have ZK:y.ch.getD i 0=y.ch[i]:=by rw[List.getD_eq_getElem?_getD,List.getElem?_eq_getElem hi];rfl
  have Fz:y.ch.take (i+1)=y.ch.take i++[y.ch[i]]:=List.take_succ_eq_append_getElem hi;rw[ZK]at hk4 Hm;have ZL:(0:Int)<=(i:Int)/\(i:Int)<(y.ch.length:Int):=by omega
  generalize y.ch[i]=k at*;have Fc:(0:Int)<=(k:Int)/\(k:Int)<(ws.length:Int):=by omega
  simp-implicitDefEqProofs only[go_sem,zS,↓reduceIte,Za,Zb,Zc,reduceCtorEq,zU,zV,Zf,Zg,Zh,Zi,Zd,Ze,zF,gi,ec2,ZL,hcc,aj,Nat.mul_one];have hsA:=MX.ag KA fun q hq e=>hsn q hq e;refine(c.cln s _ A hsA (by omega)).mono ?_;rintro nv A1 ⟨O1,o1,K1⟩;have hne:iL s≠[]:=by intro e;have:=congrArg List.length e;rw[aA,List.length_nil]at this;omega
  obtain⟨bq,cq,Lq,rfl,q1,q2,qB,q3,q4⟩:=O1.some hne;have hbq:=o1 bq rfl;have Rw:=K1.bl BA (by simp);have tk:=Rw.br (o:=k) (by omega);have Hl:=Rw.ax k (.slice (some ⟨bq,0,none⟩) (iL s).length cq);have K2:af (fun q=>q=sb) A1 (ax A1 ⟨sb,k,none⟩ (.slice (some ⟨bq,0,none⟩) (iL s).length cq)):=(af.refl _ _).ax _ (.inl rfl);have hnq:bq≠sb:=by omega
  rw[ae];simp-implicitDefEqProofs only[go_sem,zS,↓reduceIte,Za,Zb,Zc,reduceCtorEq,zU,zV,Zf,Zg,Zh,Zi,Zd,Ze,zF,Fc,aj,Nat.mul_one,Nat.zero_add,tk];rw[ae];generalize ax A1 ⟨sb,k,none⟩ (.slice (some ⟨bq,0,none⟩) (iL s).length cq)=A2 at Hl K2⊢;have s1:=K1.size;have s2:=K2.size;have ck:cell A2 ⟨sb,k,none⟩=some (.slice (some ⟨bq,0,none⟩) (iL s).length cq):=by
   rw[Hl.cell,List.getElem?_set_self (by omega)]
  have qB2:=K2.bl qB hnq;have lC:af (fun q=>q=sb) H3 A2:=(KA.trans K1.any).trans K2;have TA:=lC.bl Vq (by omega);have c12:cell A2 ⟨b5,1,none⟩=some (.int .i64 (y.st:Int)):=by rw[TA.cell];rfl
  have OL2:=OL.ag lC fun q hq e=>by have e:q=sb:=e;have:=ol q hq;omega
  obtain⟨bl,ol',cl,el2,-,hlc⟩:=OL2.sl.cells (by intro e;have:=congrArg List.length e;rw[NQ,List.length_nil]at this;omega);have hlc:=hlc i (by omega);have hu:(bL (bM p y.st))[i]?=some (.int .i64 (((aJ (bM p y.st)).getD i 0:Nat):Int)):=by
   unfold bL;rw[List.getElem?_map,List.getD_eq_getElem?_getD,List.getElem?_eq_getElem (show i<(aJ (bM p y.st)).length by omega)];rfl
  rw[hu]at hlc;rw[NQ]at el2;generalize(aJ (bM p y.st)).getD i 0=u at*;rw[aA]at q1 ck;have tq:=qB2.br (o:=y.st) (by omega);simp-implicitDefEqProofs only[go_sem,zS,↓reduceIte,Za,Zb,Zc,reduceCtorEq,zU,zV,Zf,Zg,Zh,Zi,Zd,Ze,zF,gi,Fc,aj,Nat.mul_one,Nat.zero_add,ck,c12,el2,ZL,hlc,XI,tq];rw[ae];simp-implicitDefEqProofs only[go_sem,zS,↓reduceIte,Za,Zb,Zc,reduceCtorEq,ae,zU,zV,Zf,Zg,Zh,Zi,Zd,Ze];have qO:=vo qB2 (l:=iL s) (by rw[aA];exact q1) q2 q3 y.st (.int .i64 (u:Int)) (by rw[aA];exact h1);rw[iW,<-Hm,aA]at qO;have K3':af (fun q=>q=bq) A2 (ax A2 ⟨bq,y.st,none⟩ (.int .i64 (u:Int))):=(af.refl _ _).ax _ (.inl rfl);have adt:(σ k).length=s.length:=by rw[Hm,List.length_set]
  refine⟨uX.set k (.slice (some ⟨bq,0,none⟩) s.length cq),by rw[List.length_set];exact AA,?_,lC.trans' K3' fun q hq e=>by omega,fun j hj=>?_,fun c hc=>?_⟩
  ·have:=K3'.bl Hl (fun e=>hnq e.symm)
   rwa [aA]at this
  ·rw[Fz]at hj;have hjk:j≠k:=fun e=>hj (by rw[e];simp);rw[List.getD_eq_getElem?_getD,List.getElem?_set_ne (fun e=>hjk e.symm),<-List.getD_eq_getElem?_getD];exact hsame j fun h=>hj (List.mem_append_left _ h)
  ·by_cases hck:c=k
   ·subst hck;have e:(uX.set c (.slice (some ⟨bq,0,none⟩) s.length cq)).getD c undef=.slice (some ⟨bq,0,none⟩) s.length cq:=by
     rw[List.getD_eq_getElem?_getD,List.getElem?_set_self (by omega)];rfl
    rw[e];exact⟨qO.sl,fun q hq=>by have h:q=bq:=hq.1;omega⟩
   ·have lY:c∈y.ch.take i:=by
     rw[Fz]at hc;rcases List.mem_append.1 hc with h|h
     ·exact h
     ·exact absurd (by simpa using h) hck
    have e:(uX.set k (.slice (some ⟨bq,0,none⟩) s.length cq)).getD c undef=uX.getD c undef:=by
     rw[List.getD_eq_getElem?_getD,List.getElem?_set_ne (fun e=>hck e.symm),<-List.getD_eq_getElem?_getD]
    rw[e];obtain⟨g1,g2⟩:=hset c lY;refine⟨(((g1.ag K1 (by simp)).ag K2 g2).ag K3' fun q hq e=>?_),g2⟩;have:=g1.bE hq;omega
 ·rintro g A gi ⟨uX,AA,BA,KA,hsame,hset⟩;rw[List.take_length]at hsame hset;simp-implicitDefEqProofs only[go_sem,zS,↓reduceIte,Za,Zb,Zc,reduceCtorEq,ae,zU,zV,Zf,Zg,Zh,Zi,Zd,Ze];rw[hQ];exact⟨rfl,uX,AA,BA,((K4.trans K5).trans K3).any.trans KA,hsame,hset⟩
structure acj (P:Program) (ι:aC):Prop where
 con:oV P (ι.f 227)
 or:qe P (ι.f 132)
 len:jI P (ι.f 135)
def oW (P:Program) (k:FuncId):Prop:=∀(p:eT) (fx s:List Int) (d:List Nat) (pv dv sv:Value) (H:Hp),dE H pv p fx->bP p->aM H dv (iN d)->aM H sv (iL s)->s.length=p.el.length->JG p d s->d.length<=4096→
 ak P k #[pv,dv,sv] H fun r H'=>r=.bool true/\af (fun _=>False) H H'
theorem KL (hk:an P k (xT ι) xU 3) (c:acj P ι):oW P k:=by
 intro p fx s d pv dv sv H hP hG hd hs hsl hh Q3;refine qI fun Q hQ=>?_;refine ah hk (args:=[_,_,_]) (by simp) ?_;unfold xT xU kA kB kF kC kD ke kG kH kI kK kL kM kN kO kR kS kT kU kV kc kd kf kg kY kZ;obtain⟨el,di,sa,mo,fv,vs,ms,rfl,hp⟩:=hP;have hgn:=hG.n;have hvl:=hp.el;simp-implicitDefEqProofs only[go_sem,zS,↓reduceIte,Za,Zb,Zc,reduceCtorEq,zU,zV,Zf,Zg,Zh,Zi,Zd,Ze,zF];refine al fun H1 b3 e3 z3 B3 K3=>?_;simp-implicitDefEqProofs only[go_sem,zS,↓reduceIte,Za,Zb,Zc,reduceCtorEq,zU,zV,Zf,Zg,Zh,Zi,Zd,Ze,zF];refine al fun H2 b7 e7 z7 B7 K7=>?_;have jv:Bl H2 b3 [el,di,sa,mo,fv]:=K7.bl B3 (by simp);have Wp:Bl H2 b7 [.slice none 0 0]:=B7;have cG:=K3.trans K7;have hd2:=hd.ag cG (by simp);have hs2:=hs.ag cG (by simp);have Wn:=hp.ai cG;have Ui:=hd2.aq;have Uj:aO dv=d.length:=by rw[hd2.len,aW]
 have ack:=hs2.aq;have Py:aO sv=s.length:=by rw[hs2.len,aA]
 have s3:=K3.size;have s7:=K7.size;simp-implicitDefEqProofs only[go_sem,zS,↓reduceIte,Za,Zb,Zc,reduceCtorEq,zU,zV,Zf,Zg,Zh,Zi,Zd,Ze,zF,Ui,Uj];refine aL d.length [15,8,9,33,6,43,44,45,46,11,69,14] rfl rfl (by omega) (by simp-implicitDefEqProofs only[go_sem,zS,↓reduceIte,Za,Zb,Zc,reduceCtorEq,ae,zU,zV,Zf,Zg,Zh,Zi,Zd,Ze]) (by simp-implicitDefEqProofs only[go_sem,zS,↓reduceIte,Za,Zb,Zc,reduceCtorEq,ae,zU,zV,Zf,Zg,Zh,Zi,Zd,Ze]) (fun i g A=>∃v,Bl A b7 [v]/\aQ A (.agg #[v]) (fun u=>(d.take i).any fun k=>bM p k u)/\(∀q,iZ (.agg #[v]) q->q≠b7)/\af (fun q=>q=b7) H2 A) ?_ ?_ ?_
 ·refine⟨_,Wp,(aQ.empty H2 none 0).congr fun n=>?_,fun q hq=>?_,af.refl _ _⟩
  ·rw[List.take_zero];rfl
  ·exact hq.elim
 ·rintro i g A hi gi gn ⟨w,BA,SA,hwb,KA⟩;simp-implicitDefEqProofs only[go_sem,zS,↓reduceIte,Za,Zb,Zc,reduceCtorEq,ae,zU,zV,Zf,Zg,Zh,Zi,Zd,Ze]at gi gn;have JB:af (fun _=>False) H A:=cG.trans' KA fun q hq e=>by omega
  have hdA:aM A dv (iN d):=hd.ag JB (by simp);have hsA:aM A sv (iL s):=hs.ag JB (by simp);obtain⟨bd,od,cd,ed,hdc⟩:=hdA.nat hi;have Vb:d[i]∈d:=List.getElem_mem _;obtain⟨FC,hk0⟩:=hh.op _ Vb;have hdf:=hh.df i d[i] (List.getElem?_eq_getElem hi);have Fz:d.take (i+1)=d.take i++[d[i]]:=List.take_succ_eq_append_getElem hi;have ZL:(0:Int)<=(i:Int)/\(i:Int)<(d.length:Int):=by omega
  generalize d[i]=kk at*;obtain⟨bs,os,cs,es,hsc⟩:=hsA.TN FC;have gX:s[kk]=0:=by rw[List.getD_eq_getElem?_getD,List.getElem?_eq_getElem FC]at hk0;exact hk0
  rw[gX]at hsc;have d1:decide ((kk:Int)<0)=false:=decide_eq_false (by omega);have d2:decide ((kk:Int)≥(s.length:Int))=false:=decide_eq_false (by omega);have d3:((0:Int)!=0)=false:=rfl;have Fc:(0:Int)<=(kk:Int)/\(kk:Int)<(s.length:Int):=by omega
  have Vh:=KA.bl jv (by omega);have c0:cell A ⟨b3,0,none⟩=some el:=by rw[Vh.cell];rfl
  have hpA:sC A p fx el di sa mo fv vs ms:=hp.ai JB;obtain⟨eb,eo,ec,ee,hld⟩:=hpA.e.ld1 (i:=kk) (by omega);have hS:=hpA.es kk (by omega);have Ug:(0:Int)<=(kk:Int)/\(kk:Int)<(vs.length:Int):=by omega
  have l7:aD A (.pointer (some ⟨b7,0,none⟩)) 1=some #[w]:=BA.aD 1 rfl;rw[ed]at Ui Uj;simp-implicitDefEqProofs only[go_sem,zS,↓reduceIte,Za,Zb,Zc,reduceCtorEq,zU,zV,Zf,Zg,Zh,Zi,Zd,Ze,zF,gi,ed,ZL,hdc,aj,Nat.mul_one,es,ack,Py,d1,d2,d3,Fc,hsc,c0,ee,Ug,hld,l7,aB];refine(c.or _ _ _ _ A SA hS).mono ?_;rintro r A1 ⟨S1,K1,o1⟩;have S1':=S1;obtain⟨w',W',rfl,HI⟩:=S1';have Rw:=K1.bl BA (by simp);have t7:=Rw.bK (o:=0) (n:=1) (by simp);have Hl:=Rw.az 0 [w'];have a1:bI #[w']:=bg (by simpa using aI HI.sl.aq);have K2:af (fun q=>q=b7) A1 (az A1 ⟨b7,0,none⟩ [w']):=(af.refl _ _).az _ (.inl rfl);have adu:=BA.lt;have n1:∀q,iZ (.agg #[w']) q->q≠b7:=fun q hq=>by have:=o1 q hq;omega
  rw[ae];simp-implicitDefEqProofs only[go_sem,zS,↓reduceIte,Za,Zb,Zc,reduceCtorEq,zU,zV,Zf,Zg,Zh,Zi,Zd,Ze,zF,t7];refine⟨a1,?_⟩;rw[ae];have S2:=S1.ag K2 n1;have hcap:=hdA.cap;rw[aW,ed]at hcap;have hcap:d.length<=cd:=hcap;have Vc:(0:Int)<=(i:Int)/\(i:Int)<=(cd:Int):=by omega
  have lC:af (fun q=>q=b7) A (az A1 ⟨b7,0,none⟩ [w']):=K1.any.trans K2;have XJ:aM (az A1 ⟨b7,0,none⟩ [w']) dv (iN d):=hdA.ag lC fun q hq e=>by
   have e:q=b7:=e;have h9:q<H.size:=hd.bE hq;omega
  have Po:af (fun _=>False) H (az A1 ⟨b7,0,none⟩ [w']):=JB.trans' lC fun q hq e=>by omega
  have AB:=lC.bl Vh (by omega);generalize az A1 ⟨b7,0,none⟩ [w']=A2 at Hl K2 S2 lC XJ Po AB⊢;have IM:i<=4096:=by omega
  simp-implicitDefEqProofs only[go_sem,zS,↓reduceIte,Za,Zb,Zc,reduceCtorEq,zU,zV,Zf,Zg,Zh,Zi,Zd,Ze,zF,gi,Vc,ite_self];refine aL i [46,11,69,6,45] rfl rfl (by omega) (by simp-implicitDefEqProofs only[go_sem,zS,↓reduceIte,Za,Zb,Zc,reduceCtorEq,ae,zU,zV,Zf,Zg,Zh,Zi,Zd,Ze]) (by simp-implicitDefEqProofs only[go_sem,zS,↓reduceIte,Za,Zb,Zc,reduceCtorEq,ae,zU,zV,Zf,Zg,Zh,Zi,Zd,Ze]) (fun j g Y=>af (fun _=>False) A2 Y) (af.refl _ _) ?_ ?_
  ·rintro j g2 Y hj gj gm KY;simp-implicitDefEqProofs only[go_sem,zS,↓reduceIte,Za,Zb,Zc,reduceCtorEq,ae,zU,zV,Zf,Zg,Zh,Zi,Zd,Ze]at gj gm;obtain⟨bd',od',cd',ed',acm⟩:=(XJ.ag KY (by simp)).nat (i:=j) (by omega);rw[ed]at ed'
   cases ed'
   have hjm:d[j]∈d.take i:=by
    rw[List.mem_take_iff_getElem];exact⟨j,by omega,rfl⟩
   obtain⟨hne,hor⟩:=hdf d[j] hjm;generalize d[j]=jj at*;have XE:(0:Int)<=(j:Int)/\(j:Int)<(i:Int):=by omega
   have e1:((jj:Int)==(kk:Int))=false:=beq_eq_false_iff_ne.2 (by omega);have WV:=KY.bl AB (by simp);have c1:cell Y ⟨b3,1,none⟩=some di:=by rw[WV.cell];rfl
   have My:nT Y di p.di:=(hp.d.ai Po).ai KY;have XK:p.di.length<=1000000:=by have:=hG.dl;omega
   simp-implicitDefEqProofs only[go_sem,zS,↓reduceIte,Za,Zb,Zc,reduceCtorEq,zU,zV,Zf,Zg,Zh,Zi,Zd,Ze,zF,gj,XE,acm,aj,Nat.mul_one,e1,c1];refine(c.con p.di di ((jj:Int),(kk:Int)) Y My XK).mono ?_;rintro r Y1 ⟨rfl,TE⟩;have acn:=TE.bl WV (by simp);have c11:cell Y1 ⟨b3,1,none⟩=some di:=by rw[acn.cell];rfl
   rw[ae]
   by_cases hm:((jj:Int),(kk:Int))∈p.di
   ·rw[decide_eq_true hm];simp-implicitDefEqProofs only[go_sem,zS,↓reduceIte,Za,Zb,Zc,reduceCtorEq,ae,zU,zV,Zf,Zg,Zh,Zi,Zd,Ze,zF,c11];exact KY.trans TE
   ·rw[decide_eq_false hm];have ZZ:((kk:Int),(jj:Int))∈p.di:=hor.resolve_left hm;simp-implicitDefEqProofs only[go_sem,zS,↓reduceIte,Za,Zb,Zc,reduceCtorEq,zU,zV,Zf,Zg,Zh,Zi,Zd,Ze,zF,c11,forall_const];refine(c.con p.di di ((kk:Int),(jj:Int)) Y1 (My.ai TE) XK).mono ?_;rintro r Y2 ⟨rfl,WU⟩;rw[ae,decide_eq_true ZZ];simp-implicitDefEqProofs only[go_sem,zS,↓reduceIte,Za,Zb,Zc,reduceCtorEq,ae,zU,zV,Zf,Zg,Zh,Zi,Zd,Ze,zF];exact(KY.trans TE).trans WU
  ·rintro g2 Y gj KY;simp-implicitDefEqProofs only[go_sem,zS,↓reduceIte,Za,Zb,Zc,reduceCtorEq,ae,zU,zV,Zf,Zg,Zh,Zi,Zd,Ze];refine⟨w',KY.bl Hl (by simp),((S2.ai KY).congr fun n=>?_),n1,(KA.trans lC).trans KY.any⟩;rw[Fz,List.any_append];simp
 ·rintro g A gi ⟨w,BA,SA,hwb,KA⟩;rw[List.take_length]at SA;have JB:af (fun _=>False) H A:=cG.trans' KA fun q hq e=>by omega
  have l7:aD A (.pointer (some ⟨b7,0,none⟩)) 1=some #[w]:=BA.aD 1 rfl;simp-implicitDefEqProofs only[go_sem,zS,↓reduceIte,Za,Zb,Zc,reduceCtorEq,zU,zV,Zf,Zg,Zh,Zi,Zd,Ze,zF,l7];refine(c.len _ _ A SA).mono ?_;rintro r A1 ⟨rfl,K1⟩;have aco:decide (((aJ fun u=>d.any fun k=>bM p k u).length:Int)<(d.length:Int))=true:=decide_eq_true (by have:=hh.few;omega);rw[ae];simp-implicitDefEqProofs only[go_sem,zS,↓reduceIte,Za,Zb,Zc,reduceCtorEq,ae,zU,zV,Zf,Zg,Zh,Zi,Zd,Ze,Ui,Uj,aco];rw[hQ];exact⟨rfl,JB.trans K1⟩
end Go.Mg
namespace Go.Mg
open Go Go.RowKit
def xV (ι:aC):S:=
 kY [kR 2 (ι.t 358) 0,kR 3 (ι.t 372) 1,kC 4 (.int .u8 0),kC 5 (.int .i64 0)] (.seq (kY [kM 11 5 2,kc 12 (kg (ι.f 360) [.t 11]),kV 13 (.cm .neq .i64 (.t 12) (.c (.int .i64 0)))] (.ite (.v 13) (kY [kC 4 (.int .u8 2),kC 5 (.int .i64 0)] .ret) .skip)) (.seq (kY [kM 15 1 3,kc 16 (kg (ι.f 434) [.t 15]),kF 14 16,kQ 17 14 0,kQ 18 14 1,kB 6 17,kB 7 18] (kY [kA 19 7,kV 20 (.not (.t 19))] (.ite (.v 20) (kY [kA 21 6,kC 4 (.int .u8 2),kB 5 21] .ret) .skip))) (kY [kG 22 0 3,kD 23 22,kL 24 23,kc 25 (.pV (ι.t 138) 1 24 #[kZ] (.t 24) (.t 24)),kB 8 25] (kY [kA 26 8,kG 27 4 2,kD 28 27,kc 29 (kg (ι.f 159) [.t 28]),kU 30 (.is 1 (.t 26) (.c (.int .i64 0))),kf (.st (.t 30) (.t 29))] (.seq (kY [kG 31 0 3,kV 32 (.ld (.t 31)),kO 33 32,kC 34 (.int .i64 0)] (.blk 0 (.loop (kY [kH 35 34 33] (.seq (.ite (.v 35) .skip (.exit 0)) (.seq (.blk 1 (kY [kA 36 34,kK 37 4 32 34,kN 38 4 37,kd 10 (.new (ι.t 368) #[.int .u8 0,.int .i64 0,kZ,kZ]),kB 9 36,kf (.stn 4 (.v 10) (.t 38))] (kY [kG 39 0 10,kV 40 (.ld (.t 39))] (.blk 2 (kY [kU 52 (.cm .eql .u8 (.v 40) (.c (.int .u8 1))),kB 51 52] (.ite (.v 51) (kY [kM 53 5 2,kM 54 4 10,kA 55 8,kA 56 9,kI 57 1 55 56,kD 58 57,kA 59 8,kc 60 (kg (ι.f 435) [.t 53,.t 54,.t 58,.t 59]),kV 61 (.not (.t 60))] (.ite (.v 61) (kY [kA 62 9,kC 4 (.int .u8 3),kB 5 62] .ret) .skip)) (kY [kU 64 (.cm .eql .u8 (.v 40) (.c (.int .u8 2))),kB 63 64] (.ite (.v 63) (kY [kM 65 5 2,kA 66 8,kA 67 9,kI 68 1 66 67,kD 69 68,kc 70 (kg (ι.f 363) [.t 65,.t 69]),kV 71 (.not (.t 70))] (.ite (.v 71) (kY [kA 72 9,kC 4 (.int .u8 4),kB 5 72] .ret) .skip)) (kY [kM 41 5 2,kG 42 3 10,kD 43 42,kA 44 8,kA 45 9,kI 46 1 44 45,kD 47 46,kc 48 (kg (ι.f 436) [.t 41,.t 43,.t 47]),kV 49 (.not (.t 48))] (.ite (.v 49) (kY [kA 50 9,kC 4 (.int .u8 5),kB 5 50] .ret) .skip)))))))))) (.reg [ke 73 34,kB 34 73]))))))) (kY [kC 4 (.int .u8 1),kC 5 (.int .i64 0)] .ret))))))
def xW:List RV:=[.t 4,.t 5]
theorem jU.parent {p:eT} {fx:List Int} {L:List fj} {σ:Nat->List Int} (h:jU p fx L σ) {i:Nat} (hi:i<L.length):i=0\/∃a<i,i∈(L.getD a cy).ch:=by
 by_cases h0:i=0
 ·exact .inl h0
 ·have hc:=h.cnt i;rw[if_pos ⟨by omega,hi⟩]at hc;have hm:i∈L.flatMap fj.ch:=List.count_pos_iff.1 (by omega);rw[List.mem_flatMap]at hm;obtain⟨y,hy,Vs⟩:=hm;obtain⟨a,ha,rfl⟩:=List.getElem_of_mem hy;have e:L.getD a cy=L[a]:=by rw[List.getD_eq_getElem?_getD,List.getElem?_eq_getElem ha];rfl
  refine .inr ⟨a,?_,by rw[e];exact Vs⟩;have hok:=h.ok a ha;rw[e]at hok;rcases hok with⟨h1,h2,h3,h4,h5,h6⟩|⟨h',_⟩|⟨_,_,h',_⟩
  ·obtain⟨j,hj,hje⟩:=List.getElem_of_mem Vs;have:=(h6 j hj).1;rw[List.getD_eq_getElem?_getD,List.getElem?_eq_getElem hj,Option.getD_some,hje]at this;exact this
  ·rw[h']at Vs;cases Vs
  ·rw[h']at Vs;cases Vs
structure Uk (P:Program) (ι:aC):Prop where
 chk:dJ P ι (ι.f 360)
 tree:oR P (ι.f 434)
 bra:tx P ι (ι.f 435)
 hal:oW P (ι.f 436)
 brk:nj P ι (ι.f 363)
 cln:cD P (ι.f 159)
def o0 (P:Program) (ι:aC) (k:FuncId):Prop:=∀(p:eT) (fx:List Int) (L:List fj) (σ:Nat->List Int) (pv rv:Value) (H:Hp),aU ι H->dE H pv p fx->bP p->lj p.el.length fx->GI H rv L->jU p fx L σ→
 ak P k #[pv,.agg #[rv]] H fun r H'=>r=.tuple #[.int .u8 1,.int .i64 0]/\af (fun _=>False) H H'
theorem KM {P:Program} {ι:aC} {k:FuncId} (hk:an P k (xV ι) xW 2) (c:Uk P ι):o0 P ι k:=by
 intro p fx L σ pv rv H hT hP hG hU hR hok;refine qI fun Q hQ=>?_;refine ah hk (args:=[_,_]) (by simp) ?_;unfold xV xW kA kB kF kC kD ke kG kH kI kK kL kM kN kO kQ kR kU kV kc kd kf kg kY kZ;have Vt:=hP;obtain⟨el,di,sa,mo,fv,vs,ms,rfl,hp⟩:=hP;have hgn:=hG.n;have adv:=hG.n0;have py:=hU.1;obtain⟨nl,KC,uL,hnd⟩:=hR.nd;have acd:=hR.few;simp-implicitDefEqProofs only[go_sem,zS,↓reduceIte,Za,Zb,Zc,reduceCtorEq,zU,zV,Zf,Zg,Zh,Zi,Zd,Ze,zF];refine al fun H1 b2 e2 z2 B2 K2=>?_;simp-implicitDefEqProofs only[go_sem,zS,↓reduceIte,Za,Zb,Zc,reduceCtorEq,zU,zV,Zf,Zg,Zh,Zi,Zd,Ze,zF];refine al fun H2 b3 e3 z3 B3 K3=>?_;have cG:=K2.trans K3;have Vi:Bl H2 b2 [el,di,sa,mo,fv]:=K3.bl B2 (by simp);have jv:Bl H2 b3 [rv]:=B3;have s2:=K2.size;have s3:=K3.size;have sD:((0:Int)!=0)=false:=rfl;simp-implicitDefEqProofs only[go_sem,zS,↓reduceIte,Za,Zb,Zc,reduceCtorEq,zU,zV,Zf,Zg,Zh,Zi,Zd,Ze,zF,Vi.aD 5 rfl];refine(c.chk p fx _ H2 (Vt.ai cG) hG hU).mono ?_;rintro r H3 ⟨rfl,K4⟩;have ew:=cG.trans K4;have B33:=K4.bl jv (by simp);rw[ae];simp-implicitDefEqProofs only[go_sem,zS,↓reduceIte,Za,Zb,Zc,reduceCtorEq,zU,zV,Zf,Zg,Zh,Zi,Zd,Ze,zF,sD,B33.aD 1 rfl];refine(c.tree L rv H3 (hR.ai ew) hok.tree).mono ?_;rintro r H4 ⟨rfl,K5⟩;have pD:=ew.trans K5;have FP:=K5.bl B33 (by simp);have zd:=(K4.trans K5).bl Vi (by simp);have c0:cell H4 ⟨b3,0,none⟩=some rv:=by rw[FP.cell];rfl
 have hsl:=KC.aq;have IB:aO rv=L.length:=by rw[KC.len,uL]
 have s4:=K4.size;have s5:=K5.size;rw[ae];simp-implicitDefEqProofs only[go_sem,zS,↓reduceIte,Za,Zb,Zc,reduceCtorEq,zU,zV,Zf,Zg,Zh,Zi,Zd,Ze,zF,c0,hsl,IB];refine⟨⟨by omega,by omega,by unfold maxLen;omega⟩,?_⟩;refine aG fun H5 sb e8 z8 B8 K6=>?_;rw[dg]at B8;have Cw:=pD.trans K6;have QW:=K6.bl zd (by simp);have SQ:=K6.bl FP (by simp);have c4:cell H5 ⟨b2,4,none⟩=some fv:=by rw[QW.cell];rfl
 simp-implicitDefEqProofs only[go_sem,zS,↓reduceIte,Za,Zb,Zc,reduceCtorEq,zU,zV,Zf,Zg,Zh,Zi,Zd,Ze,zF,c4];refine(c.cln fx fv H5 (hp.ai Cw).f (by omega)).mono ?_;rintro w0 H6 ⟨O6,o6,K7⟩;have F9:=Cw.trans K7;have B86:=K7.bl B8 (by simp);have SM:=K7.bl QW (by simp);have B36:=K7.bl SQ (by simp);have hL0:0<L.length:=by have:=hok.ne;cases L with|nil=>exact absurd rfl this|cons a l=>simp
 have hbl:(0:Int)<(L.length:Int):=by omega
 have t8:=B86.br (o:=0) (by rw[List.length_replicate];exact hL0);have o8:w0.oneCell'=true:=aI O6.sl.aq;have B87:=B86.ax 0 w0;have K8:af (fun q=>q=sb) H6 (ax H6 ⟨sb,0,none⟩ w0):=(af.refl _ _).ax _ (.inl rfl);have adw:H4.size=sb:=e8.symm;rw[ae];simp-implicitDefEqProofs only[go_sem,zS,↓reduceIte,Za,Zb,Zc,reduceCtorEq,zU,zV,Zf,Zg,Zh,Zi,Zd,Ze,zF,hbl,aj,Int.toNat_zero,Nat.zero_mul,Nat.add_zero,t8];refine⟨o8,?_⟩;rw[ae];have s6:=K6.size;have s7:=K7.size;have WL:∀q,aV w0 q->q≠sb:=fun q hq=>by have:=o6 q (O6.aV hq);omega
 have S0:=O6.sl.ag K8 WL;have AE:af (fun _=>False) H (ax H6 ⟨sb,0,none⟩ w0):=F9.trans' K8 fun q hq e=>by omega
 have B27:=K8.bl SM (by omega);have ZM:=K8.bl B36 (by omega);obtain⟨XL,Ul⟩:∃XL,XL=(List.replicate L.length (Value.slice none 0 0)).set 0 w0:=⟨_,rfl⟩
 have acp:XL.length=L.length:=by rw[Ul];simp
 have acq:XL.getD 0 undef=w0:=by rw[Ul,List.getD_eq_getElem?_getD,List.getElem?_set_self (by simpa using hL0)];rfl
 rw[<-Ul]at B87;generalize ax H6 ⟨sb,0,none⟩ w0=H7 at K8 S0 AE B27 ZM B87⊢;have s8:=K8.size;have c07:cell H7 ⟨b3,0,none⟩=some rv:=by rw[ZM.cell];rfl
 simp-implicitDefEqProofs only[go_sem,zS,↓reduceIte,Za,Zb,Zc,reduceCtorEq,zU,zV,Zf,Zg,Zh,Zi,Zd,Ze,zF,c07,hsl,IB];have n0:¬∃a,a<0/\True:=fun⟨a,h,_⟩=>by omega
 refine aL L.length [35,10,9,40,51,61,4,5,63,71,49,34] rfl rfl (by omega) (by simp-implicitDefEqProofs only[go_sem,zS,↓reduceIte,Za,Zb,Zc,reduceCtorEq,ae,zU,zV,Zf,Zg,Zh,Zi,Zd,Ze]) (by simp-implicitDefEqProofs only[go_sem,zS,↓reduceIte,Za,Zb,Zc,reduceCtorEq,ae,zU,zV,Zf,Zg,Zh,Zi,Zd,Ze]) (fun i g A=>∃ws,ws.length=L.length/\Bl A sb ws/\af (fun q=>q=sb) H7 A/\∀j<L.length,(j=0\/∃a<i,j∈(L.getD a cy).ch)->aM A (ws.getD j undef) (iL (σ j))/\∀q,aV (ws.getD j undef) q->q≠sb) ?_ ?_ ?_
 ·refine⟨XL,acp,B87,af.refl _ _,fun j hj h=>?_⟩;rcases h with rfl|⟨a,ha,_⟩
  ·rw[acq,hok.fx];exact⟨S0,WL⟩
  ·omega
 ·rintro i g A hi gi gn ⟨ws,AA,BA,KA,hset⟩;simp-implicitDefEqProofs only[go_sem,zS,↓reduceIte,Za,Zb,Zc,reduceCtorEq,ae,zU,zV,Zf,Zg,Zh,Zi,Zd,Ze]at gi gn;have JB:af (fun _=>False) H A:=AE.trans' KA fun q hq e=>by omega
  obtain⟨Si,ni⟩:=hset i hi (hok.parent hi);obtain⟨b,o,c',e,hld⟩:=DI (KC.ai JB) (i:=i) (by omega);have hb:(0:Int)<=(i:Int)/\(i:Int)<(nl.length:Int):=by omega
  have hb2:(0:Int)<=(i:Int)/\(i:Int)<(L.length:Int):=by omega
  have Hi:=hnd i hi;have acr:=hok.ok i hi;have hUi:=hok.us i hi;generalize hx:nl.getD i AD=x at*;simp-implicitDefEqProofs only[go_sem,zS,↓reduceIte,Za,Zb,Zc,reduceCtorEq,zU,zV,Zf,Zg,Zh,Zi,Zd,Ze,zF,gi,e,aj,hb,hld,aB];refine ff (lQ x) (.int .i64 (i:Int)) rfl (by simp-implicitDefEqProofs only[go_sem,zS,↓reduceIte,Za,Zb,Zc,reduceCtorEq,ae,zU,zV,Zf,Zg,Zh,Zi,Zd,Ze]) (by simp-implicitDefEqProofs only[go_sem,zS,↓reduceIte,Za,Zb,Zc,reduceCtorEq,ae,zU,zV,Zf,Zg,Zh,Zi,Zd,Ze]) rfl rfl (List.all_eq_true.2 (qp _)) fun A1 b10 e10 z10 B10 og=>?_;have ET:=Hi.kd;have c10:cell A1 ⟨b10,0,none⟩=some (.int .u8 ((L.getD i cy).kd:Int)):=by rw[B10.cell,<-ET];rfl
  have Rw:=og.bl BA (by simp);have MA:=(KA.bl B27 (by omega))
  have B21:=og.bl MA (by simp);have cs:cell A1 ⟨sb,i,none⟩=some (ws.getD i undef):=by
   rw[Rw.cell,List.getD_eq_getElem?_getD,List.getElem?_eq_getElem (by omega)];rfl
  have Si1:=Si.ag og (by simp);have Pz:=JB.trans og;have hP1:=Vt.ai Pz;have l2:=B21.aD 5 rfl;have l10:=B10.aD 4 rfl;have acs:cell A1 ⟨b10,3,none⟩=some (oJ x.2.2.2):=by rw[B10.cell];rfl
  have hKS:∀{X:Hp},af (fun q=>q=sb) A X->∀j<L.length,(j=0\/∃a<i,j∈(L.getD a cy).ch)->aM X (ws.getD j undef) (iL (σ j))/\∀q,aV (ws.getD j undef) q->q≠sb:=fun KX j hj h=>by
   obtain⟨g1,g2⟩:=hset j hj h;exact⟨g1.ag KX g2,g2⟩
  rcases acr with⟨h1,h2,h3,h4,h5,h6⟩|⟨h1,h2⟩|⟨h1,h2,h3,h4⟩
  ·have d1:(((1:Nat):Int)==1)=true:=rfl;simp-implicitDefEqProofs only[go_sem,zS,↓reduceIte,Za,Zb,Zc,reduceCtorEq,zU,zV,Zf,Zg,Zh,Zi,Zd,Ze,zF,c10,h1,d1,l2,l10,hb2,aj,cs];have Ak:=c.bra p fx (σ i) x (L.getD i cy) σ (.agg #[el,di,sa,mo,fv]) (ws.getD i undef) ws sb H A1 hT Vt hG Hi Pz (by omega) Si1 ni hUi.1 Rw h3 h4 h5 fun j hj=>by
    obtain⟨q1,q2,q3⟩:=h6 j hj;exact⟨by omega,q3⟩
   rw[AA]at Ak;refine Ak.mono ?_;rintro r A2 ⟨rfl,uX,acu,Hl,lC,hsame,DH⟩;rw[ae];simp-implicitDefEqProofs only[go_sem,zS,↓reduceIte,Za,Zb,Zc,reduceCtorEq,ae,zU,zV,Zf,Zg,Zh,Zi,Zd,Ze];have ud:af (fun q=>q=sb) A A2:=og.any.trans lC;refine⟨uX,acu,Hl,KA.trans ud,fun j hj h=>?_⟩
   by_cases hjc:j∈(L.getD i cy).ch
   ·exact DH j hjc
   ·rw[hsame j hjc];refine hKS ud j hj ?_;rcases h with h|⟨a,ha,He⟩
    ·exact .inl h
    ·have:a≠i:=fun e=>hjc (by rw[<-e];exact He);exact .inr ⟨a,by omega,He⟩
  ·have hk2:(L.getD i cy).kd=2:=by rw[h1]
   have hc0:(L.getD i cy).ch=[]:=by rw[h1]
   have d1:(((2:Nat):Int)==1)=false:=rfl;have d2:(((2:Nat):Int)==2)=true:=rfl;simp-implicitDefEqProofs only[go_sem,zS,↓reduceIte,Za,Zb,Zc,reduceCtorEq,zU,zV,Zf,Zg,Zh,Zi,Zd,Ze,zF,c10,hk2,d1,d2,l2,l10,hb2,aj,cs];refine(c.brk p fx (σ i) _ _ A1 (hT.ag Pz) hP1 hG hUi Si1).mono ?_;rintro r A2 ⟨rfl,lC⟩;rw[ae,h2];simp-implicitDefEqProofs only[go_sem,zS,↓reduceIte,Za,Zb,Zc,reduceCtorEq,ae,zU,zV,Zf,Zg,Zh,Zi,Zd,Ze];have ud:af (fun _=>False) A A2:=og.trans lC;refine⟨ws,AA,ud.bl BA (by simp),KA.trans ud.any,fun j hj h=>hKS ud.any j hj ?_⟩;rcases h with h|⟨a,ha,He⟩
   ·exact .inl h
   ·have:a≠i:=fun e=>by rw[e,hc0]at He;cases He
    exact .inr ⟨a,by omega,He⟩
  ·have d1:(((3:Nat):Int)==1)=false:=rfl;have d2:(((3:Nat):Int)==2)=false:=rfl;simp-implicitDefEqProofs only[go_sem,zS,↓reduceIte,Za,Zb,Zc,reduceCtorEq,zU,zV,Zf,Zg,Zh,Zi,Zd,Ze,zF,c10,h1,d1,d2,l2,l10,acs,hb2,aj,cs];refine(c.hal p fx (σ i) (L.getD i cy).sp _ _ _ A1 hP1 hG (Hi.sp.ag Pz (by simp)) Si1 hUi.1 h4 h4.sz).mono ?_;rintro r A2 ⟨rfl,lC⟩;rw[ae];simp-implicitDefEqProofs only[go_sem,zS,↓reduceIte,Za,Zb,Zc,reduceCtorEq,ae,zU,zV,Zf,Zg,Zh,Zi,Zd,Ze];have ud:af (fun _=>False) A A2:=og.trans lC;refine⟨ws,AA,ud.bl BA (by simp),KA.trans ud.any,fun j hj h=>hKS ud.any j hj ?_⟩;rcases h with h|⟨a,ha,He⟩
   ·exact .inl h
   ·have:a≠i:=fun e=>by rw[e,h3]at He;cases He
    exact .inr ⟨a,by omega,He⟩
 ·rintro g A gi ⟨ws,AA,BA,KA,hset⟩;simp-implicitDefEqProofs only[go_sem,zS,↓reduceIte,Za,Zb,Zc,reduceCtorEq,ae,zU,zV,Zf,Zg,Zh,Zi,Zd,Ze];rw[hQ];exact⟨rfl,AE.trans' KA fun q hq e=>by omega⟩
end Go.Mg
