/- Lemmas of ours. No conditions. -/
import Derived.Test.YteeemadonfcliaaGreatDoorMgSo
import Derived.Test.YteeemadonfcliaaGreatDoorMgFB
open Nat renaming reduceEqDiff→Za,reduceAdd→Zb,reduceMul→Zc
set_option linter.all false
set_option maxRecDepth 100000
namespace Go.Mg
open Go Go.RowKit
def tP (ι:aJ):S:=
 kY [kC 2 (kZ)] (kY [kA 3 0,kA 4 0,kL 5 4,kA 6 0,kL 7 6,kU 8 (.m (.slm 2 (.t 3) .none (.t 5) (.t 7))),kB 2 8] .ret)
def tQ:List RV:=[.t 2]
def jQ (ι:aJ):S:=
 kY [kC 2 (kZ)] (.seq (kY [kA 6 0,kL 7 6,kV 8 (.cm .lss .i64 (.t 7) (.c (.int .i64 2)))] (.ite (.v 8) (kY [kA 9 0,kB 2 9] .ret) .skip)) (.seq (kY [kC 3 (.int .i64 1)] (.blk 0 (.loop (.seq (kY [kA 10 3,kA 11 0,kL 12 11,kV 13 (.cm .lss .i64 (.t 10) (.t 12))] (.ite (.v 13) .skip (.exit 0))) (.seq (.blk 1 (kY [kA 16 0,kA 17 3,kI 18 2 16 17,kN 19 2 18,kA 20 0,kA 21 3,kU 22 (.ar .sub .i64 (.t 21) (.c (.int .i64 1))),kI 23 2 20 22,kN 24 2 23,kV 25 (.m (.eqa false .i64 2 (.t 19) (.t 24)))] (.ite (.v 25) (kY [kA 26 0,kA 27 3,kU 28 (.m (.sls 2 (.t 26) (.some (.t 27)) .none)),kB 4 28] (.seq (kY [kC 5 (.int .i64 1)] (.blk 2 (.loop (.seq (kY [kA 29 5,kA 30 4,kL 31 30,kV 32 (.cm .lss .i64 (.t 29) (.t 31))] (.ite (.v 32) .skip (.exit 2))) (.seq (.blk 3 (kY [kA 35 4,kA 36 5,kI 37 2 35 36,kN 38 2 37,kA 39 4,kA 40 5,kU 41 (.ar .sub .i64 (.t 40) (.c (.int .i64 1))),kI 42 2 39 41,kN 43 2 42,kV 44 (.m (.eqa true .i64 2 (.t 38) (.t 43)))] (.ite (.v 44) (kY [kA 45 0,kA 46 3,kA 47 4,kA 48 5,kI 49 2 47 48,kN 50 2 49,kI 51 2 45 46,kf (.stn 2 (.t 51) (.t 50))] (.reg [kA 52 3,kU 53 (.ar .add .i64 (.t 52) (.c (.int .i64 1))),kB 3 53])) .skip))) (.reg [kA 33 5,kU 34 (.ar .add .i64 (.t 33) (.c (.int .i64 1))),kB 5 34])))))) (kY [kA 54 0,kA 55 3,kU 56 (.m (.sls 2 (.t 54) (.some (.t 55)) .none)),kf (.clr #[.int .i64 0,.int .i64 0] (.t 56))] (kY [kA 57 0,kA 58 3,kU 59 (.m (.sls 2 (.t 57) .none (.some (.t 58)))),kB 2 59] .ret)))) .skip))) (.reg [kA 14 3,kU 15 (.ar .add .i64 (.t 14) (.c (.int .i64 1))),kB 3 15])))))) (kY [kA 60 0,kB 2 60] .ret)))
def jR:List RV:=[.t 2]
def wK (P:Program) (k:FuncId):Prop:=∀(l:List NP) (v:Value) (H:Hp),bo nE 2 H v l->an P k #[v] H fun r H'=>bo nE 2 H' r l/\(∀q,aU r q->aU v q)/\H'=H
variable {P:Program} {ι:aJ} {k:FuncId} {L xs:List Value} {o:Nat}
theorem FM (hk:aq P k (tP ι) tQ 1):wK P k:=by
 intro l v H hv;refine ah hk (args:=[_]) (by simp) ?_;unfold tP tQ kA kB kC kL kU kY kZ;obtain⟨a,c,rfl,hc⟩:=hv.mk;have ea:(if l.length=0 then a else Option.map (fun x=>x) a)=a:=by cases a<;>simp
 simp only[go_sem,zS,↓reduceIte,Za,Zb,Zc,reduceCtorEq,ae,ea];refine⟨⟨by omega,by omega,by omega,by omega⟩,?_,fun q hq=>?_⟩
 ·rcases hv with⟨_,_,h,rfl⟩|⟨b,o,c',hl,h,h0,C,T,z,h1,h2,h3⟩
  ·exact bo.nil _ _ _
  ·cases h
   exact .inr ⟨b,o,_,hl,rfl,Nat.le_refl _,C,T,z,h1,h2,h3⟩
 ·cases a with
  |none=>exact hq.elim
  |some p=>exact hq
theorem FN (a b:NP):([(a.1:Int),(a.2:Int)]==[(b.1:Int),(b.2:Int)])=decide (a=b):=by
 obtain⟨a1,a2⟩:=a;obtain⟨b1,b2⟩:=b;rw[Bool.eq_iff_iff];simp;omega
theorem FO {t:Nat} (h:t<=o) (ho:o<=L.length):(iE L o xs).take t=L.take t:=by
 unfold iE;rw[List.append_assoc,List.take_append_of_le_length (by rw[List.length_take];omega),List.take_take,Nat.min_eq_left h]
theorem CW (ho:o<=L.length):(iE L o xs).take (o+xs.length)=L.take o++xs:=by
 unfold iE;exact List.take_left' (by rw[List.length_append,List.length_take];omega)
theorem FP {d:Nat} (h:o+xs.length<=d) (ho:o<=L.length):(iE L o xs).drop d=L.drop d:=by
 unfold iE;have e:(L.take o++xs).length=o+xs.length:=by rw[List.length_append,List.length_take];omega
 rw[show d=(o+xs.length)+(d -(o+xs.length)) by omega,<-List.drop_drop,List.drop_left' e,List.drop_drop]
theorem Bw {H:Hp} {b:Nat} (h:Bl H b L) {j:Nat} {p:NP} (hL:j*2+2<=L.length) (hp:(L.drop (j*2)).take 2=nE p):aR H ⟨b,j*2,none⟩ 2=some #[.int .i64 (p.1:Int),.int .i64 (p.2:Int)]:=by
 rw[h.aR (by omega),hp];rfl
def wL (P:Program) (k:FuncId):Prop:=∀(l:List NP) (v:Value) (H:Hp),dG nE 2 H v l->l.length<1000000->an P k #[v] H fun r H'=>bo nE 2 H' r (nu l l.length)/\(∀q,aU r q->az v q)/\af (az v) H H'
theorem wM (hk:aq P k (jQ ι) jR 1):wL P k:=by
 intro l v H hv hn;refine ah hk (args:=[_]) (by simp) ?_;unfold jQ jR kA kB kC kI kL kN kU kV kf kY kZ;have hs:=hv.sl
 by_cases h0:l=[]
 ·obtain⟨a,c,rfl,hc⟩:=hs.mk;subst h0;have e0:decide ((((0:Nat):Int))<2)=true:=rfl;simp only[go_sem,zS,↓reduceIte,Za,Zb,Zc,reduceCtorEq,ae,List.length_nil,e0];exact⟨hv.sl,fun q hq=>hv.aU hq,af.refl _ _⟩
 obtain⟨b,c,L,rfl,h1,h2,hB,h3⟩:=hv.some h0;have WI:0<l.length:=List.length_pos_iff.2 h0;have aj:dK l 0=true:=rfl;have yK:l.length*2<=L.length:=by omega
 have Xh:∀j,j<l.length->(L.drop (j*2)).take 2=nE (bg l j):=fun j hj=>by
  have:=AV iR l j l[j] (List.getElem?_eq_getElem hj);rw[<-h3,List.drop_take,List.take_take,Nat.min_eq_left (by omega)]at this;rw[this,cJ hj]
 simp only[go_sem,zS,↓reduceIte,Za,Zb,Zc,reduceCtorEq,ae];refine aC (fun hlt=>?_) (fun gx=>?_)
 ·refine⟨?_,fun q hq=>hv.aU hq,af.refl _ _⟩;rw[nG _ (fun i hi=>by rw[show i=0 by omega];exact aj) (Nat.le_refl _),List.take_length];exact hs
 ·refine aL [3,13,25,4,5,32,44,2] rfl (fun n f H'=>∃i:Nat,1<=i/\i<=l.length/\n=l.length -i/\f 3=.int .i64 i/\H'=H/\∀j<i,dK l j=true) (l.length -1) ?_ ?_
  ·exact⟨1,by omega,by omega,rfl,by simp only[go_sem,zS,↓reduceIte,Za,Zb,Zc,reduceCtorEq,ae];rfl,rfl,fun j hj=>by rw[show j=0 by omega];exact aj⟩
  ·rintro n f H1 ⟨i,g1,g2,rfl,hf,rfl,FQ⟩;simp only[go_sem,zS,↓reduceIte,Za,Zb,Zc,reduceCtorEq,ae]at hf;simp only[go_sem,zS,↓reduceIte,Za,Zb,Zc,reduceCtorEq,ae,hf];refine aC (fun hlt=>?_) (fun gx=>?_)
   ·have hi:i<l.length:=by omega
    have hsub:IntKind.i64.wrap ((i:Int) -1)=((i -1:Nat):Int):=by rw[IntWalk.i64_in _ (by omega)];omega
    have r1:=Bw hB (j:=i) (by omega) (Xh i hi);have r2:=Bw hB (j:=i -1) (by omega) (Xh (i -1) (by omega));simp only[go_sem,zS,↓reduceIte,Za,Zb,Zc,reduceCtorEq,ae,hsub,ai,aB,r1,r2];refine⟨by omega,by omega,⟨by simp[fB],by simp[fB]⟩,?_⟩;rw[FN];have Sm:decide (bg l i=bg l (i -1))=!dK l i:=by
     unfold dK;have:decide (i=0)=false:=by simp;omega
     rw[this,Bool.false_or];simp
    rw[Sm]
    cases hki:dK l i with
    |true=>
     simp(disch:=omega)only[go_sem,zS,↓reduceIte,Za,Zb,Zc,reduceCtorEq,ae,Bool.not_true,IntWalk.i64_in];exact⟨l.length -(i+1),by omega,i+1,by omega,by omega,rfl,by rfl,fun j hj=>by
      by_cases e:j=i
      ·subst e;exact hki
      ·exact FQ j (by omega)⟩
    |false=>
     simp only[go_sem,zS,↓reduceIte,Za,Zb,Zc,reduceCtorEq,ae,Bool.not_false];refine⟨by omega,?_⟩;have hci:¬c=i:=by omega
     rw[if_neg hci];refine aL [32,44,3,5] rfl (fun n f H'=>∃(m:Nat) (L2:List Value),i+1<=m/\m<=l.length/\n=l.length -m/\f 5=.int .i64 ((m -i:Nat):Int)/\f 3=.int .i64 ((nu l m).length:Int)/\(nu l m).length+1<=m∧
       Bl H' b L2/\L2.length=L.length/\L2.take ((nu l m).length*2)=(nu l m).flatMap nE/\(∀j,m<=j+1->j<l.length->(L2.drop (j*2)).take 2=nE (bg l j))/\af (fun q=>q=b) H1 H') (l.length -(i+1)) ?_ ?_
     ·have ed:nu l (i+1)=l.take i:=by rw[lg,if_neg (by rw[hki];simp),nG i FQ (by omega)]
      have el:(nu l (i+1)).length=i:=by rw[ed,List.length_take];omega
      refine⟨i+1,L,by omega,by omega,rfl,?_,?_,by omega,hB,rfl,?_,fun j _ hj=>Xh j hj,af.refl _ _⟩
      ·simp only[go_sem,zS,↓reduceIte,Za,Zb,Zc,reduceCtorEq,ae,Nat.add_sub_cancel_left];rfl
      ·simp only[go_sem,zS,↓reduceIte,Za,Zb,Zc,reduceCtorEq,ae,el,hf]
      ·rw[el,ed,<-sH iR l i (by omega),<-h3,List.take_take,Nat.min_eq_left (by omega)]
     ·rintro n f2 H2 ⟨m,L2,q1,q2,rfl,q3,q4,q5,q6,q7,q8,q9,Xi⟩;generalize Bx:(nu l m).length=kd at q4 q5 q8;simp only[go_sem,zS,↓reduceIte,Za,Zb,Zc,reduceCtorEq,ae]at q3 q4;simp only[go_sem,zS,↓reduceIte,Za,Zb,Zc,reduceCtorEq,ae,q3,q4,hf];refine aC (fun hlt=>?_) (fun gx=>?_)
      ·have hm:m<l.length:=by omega
       have hsub:IntKind.i64.wrap (((m -i:Nat):Int) -1)=((m -i -1:Nat):Int):=by rw[IntWalk.i64_in _ (by omega)];omega
       have r1:=Bw q6 (j:=m) (by omega) (q9 m (by omega) hm);have r2:=Bw q6 (j:=m -1) (by omega) (q9 (m -1) (by omega) (by omega));have e1:i*2+(m -i)*2=m*2:=by omega
       have e2:i*2+(m -i -1)*2=(m -1)*2:=by omega
       simp only[go_sem,zS,↓reduceIte,Za,Zb,Zc,reduceCtorEq,ae,hsub,ai,aB,Nat.zero_add,e1,e2,r1,r2];refine⟨by omega,by omega,⟨by simp[fB],by simp[fB]⟩,?_⟩;have hne:(!decide (bg l m=bg l (m -1)))=dK l m:=by
        unfold dK;have:decide (m=0)=false:=by simp;omega
        rw[this,Bool.false_or];simp
       rw[FN,hne]
       cases QY:dK l m with
       |true=>
        simp only[go_sem,zS,↓reduceIte,Za,Zb,Zc,reduceCtorEq,ae,r1,eT,cM];have hst:=q6.bK (o:=kd*2) (n:=2) (by omega);have B3:=q6.aA (kd*2) (nE (bg l m));have K3:af (fun q=>q=b) H2 (aA H2 ⟨b,kd*2,none⟩ (nE (bg l m))):=(af.refl _ _).aA _ (.inl rfl);have eS:nu l (m+1)=nu l m++[bg l m]:=by rw[lg,if_pos QY]
        have eL:(nu l (m+1)).length=kd+1:=by rw[eS,List.length_append,Bx];rfl
        refine⟨by omega,by omega,⟨hst,fun x hx=>by simp at hx;rcases hx with rfl|rfl<;>rfl⟩,l.length -(m+1),by omega,m+1,_,by omega,by omega,rfl,?_,?_,by omega,B3,?_,?_,?_,Xi.trans K3⟩
        ·rw[IntWalk.i64_in _ (by omega),show m+1 -i=m -i+1 by omega];rfl
        ·rw[IntWalk.i64_in _ (by omega),eL];rfl
        ·rw[gX (by show kd*2+2<=_;omega),q7]
        ·rw[eL,show(kd+1)*2=kd*2+(nE (bg l m)).length by show _=_+2;omega,CW (by omega),q8,eS,List.flatMap_append];simp
        ·intro j hj1 qS;rw[FP (by show kd*2+2<=_;omega) (by omega)];exact q9 j (by omega) qS
       |false=>
        have eS:nu l (m+1)=nu l m:=by rw[lg,if_neg (by rw[QY];simp)]
        simp(disch:=omega)only[go_sem,zS,↓reduceIte,Za,Zb,Zc,reduceCtorEq,ae,IntWalk.i64_in,q3,q4];refine⟨l.length -(m+1),by omega,m+1,L2,by omega,by omega,rfl,?_,by rw[eS,Bx],by rw[eS];omega,q6,q7,by rw[eS,Bx];exact q8,fun j hj1 qS=>q9 j (by omega) qS,Xi⟩;rw[show m+1 -i=m -i+1 by omega];rfl
      ·have hm:m=l.length:=by omega
       subst hm;have hck:¬c=kd:=by omega
       simp only[go_sem,zS,↓reduceIte,Za,Zb,Zc,reduceCtorEq,ae,if_neg hck,ai,Nat.zero_add,ite_self];have hz:(rep #[Value.int .i64 0,Value.int .i64 0] ((l.length -kd)*2)).size=(l.length -kd)*2:=by simp[rep]
       have hza:bQ (rep #[Value.int .i64 0,Value.int .i64 0] ((l.length -kd)*2)):=by
        intro x hx;simp only[rep,Array.toList_map,List.mem_map]at hx;obtain⟨t,_,rfl⟩:=hx;have:t % 2=0\/t % 2=1:=by omega
        show(#[Value.int .i64 0,Value.int .i64 0][t % 2]!).oneCell'=true
        rcases this with e|e<;>rw[e]<;>rfl
       have ho:=q6.fZ (kd*2) 0 _ hza (by rw[hz];omega);have B3:=q6.put (kd*2) 0 (rep #[Value.int .i64 0,Value.int .i64 0] ((l.length -kd)*2));have K3:af (fun q=>q=b) H2 (gV H2 (some ⟨b,kd*2,none⟩) 0 (rep #[Value.int .i64 0,Value.int .i64 0] ((l.length -kd)*2))):=(af.refl _ _).put rfl _ _ (.inl rfl);refine⟨by omega,ho,by omega,?_,fun q hq=>?_,?_⟩
       ·have:=bo.bl (k:=2) (enc:=nE) B3 (l:=nu l l.length) (c:=c) ?_ ?_ ?_
        ·rw[Bx]at this;exact this
        ·rw[Bx,Nat.add_zero,FO (Nat.le_refl _) (by omega)];exact q8
        ·rw[Bx,Nat.add_zero,gX (by rw[Array.length_toList,hz];omega)];omega
        ·omega
       ·exact hq.1
       ·exact Xi.trans K3
   ·have:i=l.length:=by omega
    subst this;refine⟨?_,fun q hq=>hv.aU hq,af.refl _ _⟩;rw[nG _ FQ (Nat.le_refl _),List.take_length];exact hs
end Go.Mg
namespace Go.Mg
open Go Go.RowKit
def yL (ι:aJ):S:=
 kY [kC 4 (.int .i64 0)] (.seq (kY [kA 6 0,kV 7 (.m (.lenl (.t 6))),kC 8 (.int .i64 0)] (.blk 0 (.loop (kY [kH 9 8 7] (.seq (.ite (.v 9) .skip (.exit 0)) (.seq (.blk 1 (kY [kA 10 8,kB 5 10] (kY [kA 11 1,kA 12 0,kA 13 5,kI 14 1 12 13,kD 15 14,kV 16 (.cm .eql .i64 (.t 11) (.t 15))] (.ite (.v 16) (kY [kA 17 5,kB 4 17] .ret) .skip)))) (.reg [ke 18 8,kB 8 18]))))))) (kY [kC 4 (.int .i64 (-1))] .ret))
def yM:List RV:=[.t 4]
def tR (ι:aJ):S:=
 kY [kC 2 (.bool false)] (kY [kA 9 0,kU 10 (.nil (.t 9)),kU 11 (.fa 0 (.t 10)),kD 12 11,kc 13 (.nq (ι.t 26) 1 8 #[.int .i64 0] (.t 12) (.t 12)),kB 3 13] (.seq (kY [kA 14 0,kU 15 (.nil (.t 14)),kU 16 (.fa 1 (.t 15)),kV 17 (.ld (.t 16)),kO 18 17,kC 19 (.int .i64 0)] (.blk 0 (.loop (kY [kH 20 19 18] (.seq (.ite (.v 20) .skip (.exit 0)) (.seq (.blk 1 (kY [kK 21 2 17 19,kN 22 2 21,kd 5 (.new (ι.t 194) #[.int .i64 0,.int .i64 0]),kf (.stn 2 (.v 5) (.t 22))] (.reg [kA 23 3,kP 24 2 1 5 1,kD 25 24,kI 26 1 23 25,kD 27 26,kU 28 (.ar .add .i64 (.t 27) (.c (.int .i64 1))),kI 29 1 23 25,kf (.st (.t 29) (.t 28))]))) (.reg [ke 30 19,kB 19 30]))))))) (.seq (.blk 2 (.loop (.seq (kY [kA 31 0,kU 32 (.nil (.t 31)),kU 33 (.fa 4 (.t 32)),kD 34 33,kL 35 34,kA 36 0,kU 37 (.nil (.t 36)),kU 38 (.fa 0 (.t 37)),kD 39 38,kV 40 (.cm .lss .i64 (.t 35) (.t 39))] (.ite (.v 40) .skip (.exit 2))) (.blk 3 (kY [kA 41 3,kc 42 (kg (ι.f 157) [.t 41,.c (.int .i64 0)]),kB 6 42] (.seq (kY [kA 43 6,kV 44 (.cm .lss .i64 (.t 43) (.c (.int .i64 0)))] (.ite (.v 44) (kY [kC 2 (.bool false)] .ret) .skip)) (kY [kA 45 3,kA 46 6,kI 47 1 45 46,kf (.st (.t 47) (.c (.int .i64 (-1))))] (kY [kA 48 0,kA 49 0,kU 50 (.nil (.t 49)),kU 51 (.fa 4 (.t 50)),kD 52 51,kA 53 6,kc 54 (.cj (ι.t 26) 1 1 [.t 53]),kc 55 (.app false (ι.t 26) 1 8 #[.int .i64 0] (.t 52) (.t 54)),kU 56 (.nil (.t 48)),kU 57 (.fa 4 (.t 56)),kf (.st (.t 57) (.t 55))] (kY [kA 58 0,kU 59 (.nil (.t 58)),kU 60 (.fa 1 (.t 59)),kV 61 (.ld (.t 60)),kO 62 61,kC 63 (.int .i64 0)] (.blk 4 (.loop (kY [kH 64 63 62] (.seq (.ite (.v 64) .skip (.exit 4)) (.seq (.blk 5 (kY [kK 65 2 61 63,kN 66 2 65,kd 8 (.new (ι.t 194) #[.int .i64 0,.int .i64 0]),kf (.stn 2 (.v 8) (.t 66))] (kY [kP 67 2 1 8 0,kD 68 67,kA 69 6,kV 70 (.cm .eql .i64 (.t 68) (.t 69))] (.ite (.v 70) (.reg [kA 71 3,kP 72 2 1 8 1,kD 73 72,kI 74 1 71 73,kD 75 74,kU 76 (.ar .sub .i64 (.t 75) (.c (.int .i64 1))),kI 77 1 71 73,kf (.st (.t 77) (.t 76))]) .skip)))) (.reg [ke 78 63,kB 63 78]))))))))))))))) (kY [kC 2 (.bool true)] .ret))))
def tT:List RV:=[.t 2]
def rE (P:Program) (k:FuncId):Prop:=∀(l:List Int) (v:Value) (x:Int) (H:Hp),aG H v (iL l)->l.length<=1000000→
 an P k #[v,.int .i64 x] H fun r H'=>((r=.int .i64 (-1)/\x∉l)\/∃i:Nat,r=.int .i64 (i:Int)/\i<l.length/\l.getD i 0=x/\∀j<i,l.getD j 0≠x)/\H'=H
variable {P:Program} {ι:aJ} {k:FuncId} {n i b:Nat} {f:Nat->Int} {R:Nat->Nat->Bool} {s:List Nat}
theorem JS (hk:aq P k (yL ι) yM 2):rE P k:=by
 intro l v x H hv JQ;refine ah hk (args:=[_,_]) (by simp) ?_;unfold yL yM kA kB kC kD ke kH kI kV kY;simp only[go_sem,zS,↓reduceIte,Za,Zb,Zc,reduceCtorEq,ae,hv.ax,hv.len,ak];refine aL [9,5,16,4,8] rfl (fun n f H'=>∃i:Nat,i<=l.length/\n=l.length -i/\f 8=.int .i64 i/\(∀a<i,l.getD a 0≠x)/\H'=H) l.length
  ⟨0,by omega,by omega,by simp only[go_sem,zS,↓reduceIte,Za,Zb,Zc,reduceCtorEq,ae];rfl,fun a ha=>by omega,rfl⟩ ?_
 rintro n f H1 ⟨i,hi,rfl,hf,hx,rfl⟩;simp only[go_sem,zS,↓reduceIte,Za,Zb,Zc,reduceCtorEq,ae]at hf;simp only[go_sem,zS,↓reduceIte,Za,Zb,Zc,reduceCtorEq,hf];refine aC (fun hlt=>?_) (fun gx=>?_)
 ·have hlt:i<l.length:=by omega
  obtain⟨b,o,c,rfl,hlm,hc⟩:=hv.cells (by intro e;have h:=congrArg List.length e;rw[ak,List.length_nil]at h;omega);rw[ak]at hc hlm;have hci:=hc i hlt;rw[bW _ _ hlt]at hci
  by_cases h:x=l.getD i 0
  ·have e:(x==l.getD i 0)=true:=by simpa using h
   simp only[go_sem,zS,↓reduceIte,Za,Zb,Zc,reduceCtorEq,ae,hf,ak,ai,Nat.mul_one,hci,e];exact⟨by omega,.inr ⟨i,rfl,hlt,h.symm,hx⟩⟩
  ·have e:(x==l.getD i 0)=false:=by simpa using h
   simp(disch:=omega)only[go_sem,zS,↓reduceIte,Za,Zb,Zc,reduceCtorEq,ae,hf,ak,ai,Nat.mul_one,hci,e,IntWalk.i64_in];refine⟨by omega,l.length -(i+1),by omega,i+1,by omega,rfl,by simp,fun a ha=>?_⟩
   by_cases e2:a=i
   ·subst e2;exact fun h'=>h h'.symm
   ·exact hx a (by omega)
 ·refine .inl fun h=>?_;obtain⟨a,ha,e⟩:=List.getElem_of_mem h;exact hx a (by omega) (by rw[List.getD_eq_getElem?_getD,List.getElem?_eq_getElem ha];exact e)
def nQ (n:Nat) (f:Nat->Int):List Int:=(List.range n).map f
theorem nS (n:Nat) (f:Nat->Int):(nQ n f).length=n:=by simp[nQ]
theorem tU (f:Nat->Int) (h:i<n) (d:Int):(nQ n f).getD i d=f i:=by simp[nQ,List.getD_eq_getElem?_getD,h]
theorem ff {g:Nat->Int} (h:∀i<n,f i=g i):nQ n f=nQ n g:=List.map_congr_left fun i hi=>h i (List.mem_range.1 hi)
theorem tV {j:Nat} {x:Int} (h:j<n):(nQ n f).set j x=nQ n fun i=>if i=j then x else f i:=by
 refine List.ext_getElem (by simp[nQ]) fun i h1 h2=>?_;rw[List.getElem_set];simp only[nQ,List.getElem_map,List.getElem_range]
 by_cases e:j=i
 ·subst e;simp
 ·have:¬i=j:=fun h=>e h.symm;simp[e,this]
theorem JT (n:Nat) (x:Int):List.replicate n x=nQ n fun _=>x:=by simp[nQ,List.map_const']
theorem wN {H:Hp} (h:Bl H b (iL (nQ n f))) (hi:i<n):cell H ⟨b,i,none⟩=some (.int .i64 (f i)):=by
 rw[h.cell,bW _ _ (by rw[nS];exact hi),tU _ hi]
theorem rF (n:Nat) (R:Nat->Nat->Bool):(cy n R).length<=n*n:=by
 unfold cy;have:∀m,((List.range m).flatMap (oK n R)).length<=m*n:=fun m=>by
  induction m with
  |zero=>simp
  |succ m ih=>
   rw[List.range_succ,List.flatMap_append,List.length_append,Nat.succ_mul];have:((List.flatMap (oK n R) [m])).length<=n:=by
    simp only[List.flatMap_cons,List.flatMap_nil,List.append_nil,oK,List.length_map];have:=List.length_filter_le (R m) (List.range n);simpa using this
   omega
 exact this n
def gD (L:List NP) (i b:Nat) (q:Nat->Bool):Nat:=(L.take i).countP fun p=>decide (p.2=b)&&q p.1
theorem mj {L:List NP} (h:i<L.length) (b:Nat) (q:Nat->Bool):gD L (i+1) b q=gD L i b q+if(decide ((bg L i).2=b)&&q (bg L i).1)=true then 1 else 0:=by
 unfold gD;rw[List.take_succ_eq_append_getElem h,List.countP_append,List.countP_cons,List.countP_nil,cJ h,Nat.zero_add]
theorem By (L:List NP) (i b:Nat) (q:Nat->Bool):gD L i b q<=L.length:=by
 unfold gD;refine Nat.le_trans List.countP_le_length ?_;rw[List.length_take];omega
theorem wO (q:Nat->Bool) (hb:b<n):gD (cy n R) (cy n R).length b q=cn n fun a=>R a b&&q a:=by
 unfold gD;rw[List.take_length];exact wh n R b q hb
def tW (n:Nat) (R:Nat->Nat->Bool) (s:List Nat) (b:Nat):Int:=if b∈s then-1 else(cn n fun a=>R a b&&!decide (a∈s):Nat)
theorem pd:tW n R s b=0↔IA n R s b=true:=by
 unfold tW;rw[k8]
 by_cases h:b∈s
 ·simp[h]
 ·rw[if_neg h]
  constructor
  ·intro e;have e:cn n (fun a=>R a b&&!decide (a∈s))=0:=by omega
   refine⟨h,fun a ha hr=>?_⟩;have:=jO.1 e a ha;rw[hr,Bool.true_and]at this;simpa using this
  ·rintro⟨_,h2⟩;have:cn n (fun a=>R a b&&!decide (a∈s))=0:=jO.2 fun a ha=>by
    cases hr:R a b with
    |false=>rfl
    |true=>simp[h2 a ha hr]
   omega
theorem FR (hR:rA n R) (hs:k9 n R s) {k:Nat} (hk:v8 n R s=some k) (b:Nat) (hb:b<n):
  (if b=k then-1 else tW n R s b) -(cn n fun a=>R a b&&decide (a=k):Nat)=tW n R (s++[k]) b:=by
 obtain⟨h1,h2,_⟩:=iQ hk;obtain⟨h3,h4⟩:=k8.1 h2;have e1:cn n (fun a=>R a b&&decide (a=k))=if R k b=true then 1 else 0:=by
  cases hr:R k b with
  |false=>
   rw[if_neg (by simp)];refine jO.2 fun a ha=>?_
   by_cases e:a=k
   ·subst e;simp[hr]
   ·simp[e]
  |true=>
   rw[if_pos rfl,aZ (q:=fun a=>decide (a=k)) fun a ha=>by
    by_cases e:a=k
    ·subst e;simp[hr]
    ·simp[e]]
   exact yf n k h1
 rw[e1];unfold tW
 by_cases e:b=k
 ·subst e;have:R b b=false:=by
   cases hr:R b b with
   |false=>rfl
   |true=>exact absurd (h4 b hb hr) h3
  simp[this]
 ·rw[if_neg e]
  by_cases QZ:b∈s
  ·have:R k b=false:=by
    cases hr:R k b with
    |false=>rfl
    |true=>exact absurd (hs.mem hR QZ hr) h3
   simp[this,QZ]
  ·have hm:b∉s++[k]:=by simp[QZ,e]
   rw[if_neg QZ,if_neg hm];have e2:cn n (fun a=>R a b&&!decide (a∈s++[k]))=cn n fun a=>(R a b&&!decide (a∈s))&&!decide (a=k):=aZ fun a ha=>by
    by_cases e:a=k
    ·subst e;simp
    ·simp[e]
   rw[e2]
   cases hr:R k b with
   |false=>
    rw[aZ (p:=fun a=>(R a b&&!decide (a∈s))&&!decide (a=k)) (q:=fun a=>R a b&&!decide (a∈s)) fun a ha=>by
     by_cases e:a=k
     ·subst e;simp[hr]
     ·simp[e]]
    simp
   |true=>
    have:=fV (n:=n) (p:=fun a=>R a b&&!decide (a∈s)) h1 (by simp[hr,h3]);simp only[if_true];omega
def iN (s:List Nat):List Value:=iL (s.map fun n:Nat=>(n:Int))
theorem bw (s:List Nat):(iN s).length=s.length:=by simp[iN,iL]
theorem FT (s t:List Nat):iN (s++t)=iN s++iN t:=by simp[iN,iL]
theorem iX (n:Nat) (f:Nat->Int):(iL (nQ n f)).length=n:=by rw[ak,nS]
def rG (P:Program) (k:FuncId):Prop:=∀(n:Nat) (R:Nat->Nat->Bool) (b:Nat) (pv av bv:Value) (H:Hp),n<=256->rA n R->Bl H b [.int .i64 (n:Int),pv,av,bv,.slice none 0 0]->bo nE 2 H pv (cy n R)->(∀q,aU pv q->q≠b)→
 an P k #[.pointer (some ⟨b,0,none⟩)] H fun r H'=>r=.bool (decide ((vp n R).length=n))/\(∃sv,Bl H' b [.int .i64 (n:Int),pv,av,bv,sv]/\bY H' sv (iN (vp n R))/\∀q,az sv q->H.size<=q)/\af (fun q=>q=b) H H'
theorem FU (hk:aq P k (tR ι) tT 1) (hi:rE P (ι.f 157)):rG P k:=by
 intro n R b pv av bv H hn hR hB hp BC;refine ah hk (args:=[_]) (by simp) ?_;unfold tR tT kA kB kC kD ke kH kI kK kL kN kO kP kU kV kc kd kf kg kY;have Xj:=hB.lt;have hgl:(cy n R).length<=65536:=Nat.le_trans (rF n R) (Nat.mul_le_mul hn hn);have vr:cell H ⟨b,0,none⟩=some (.int .i64 (n:Int)):=by rw[hB.cell];rfl
 simp only[go_sem,zS,↓reduceIte,Za,Zb,Zc,reduceCtorEq,vr,ai];refine⟨⟨by omega,by omega,by omega,by unfold maxLen;omega⟩,?_⟩;refine aF fun H1 bl e1 z1 B1 K1=>?_;rw[cx,oF,JT]at B1;have s1:=K1.size;have MA:=K1.bl hB (by simp);have hc1:cell H1 ⟨b,1,none⟩=some pv:=by rw[MA.cell];rfl
 simp only[go_sem,zS,↓reduceIte,Za,Zb,Zc,reduceCtorEq,ae,hc1,hp.ax,hp.bI,hp.len];generalize hL:cy n R=L at hp hgl⊢;have hpairs:∀i,i<L.length->(bg L i).1<n/\(bg L i).2<n/\R (bg L i).1 (bg L i).2=true:=fun i hi=>by
  have:bg L i∈cy n R:=by rw[hL,cJ hi];exact List.getElem_mem _
  exact gw.1 this
 refine aL [20,5,19] rfl (fun m f H'=>∃i:Nat,i<=L.length/\m=L.length -i/\f 19=.int .i64 i/\Bl H' bl (iL (nQ n fun c=>(gD L i c fun _=>true:Nat)))/\af (fun q=>q=bl) H1 H') L.length ?_ ?_
 ·exact⟨0,by omega,by omega,by simp only[go_sem,zS,↓reduceIte,Za,Zb,Zc,reduceCtorEq,ae];rfl,B1,af.refl _ _⟩
 rintro m f H2 ⟨i,rD,rfl,hf,B2,K2⟩;have s2:=K2.size;simp only[go_sem,zS,↓reduceIte,Za,Zb,Zc,reduceCtorEq,ae]at hf;simp only[go_sem,zS,↓reduceIte,Za,Zb,Zc,reduceCtorEq,hf];refine aC (fun hlt=>?_) (fun gx=>?_)
 ·have hlt:i<L.length:=by omega
  have OE:=(hp.ag K1 (by simp)).ag K2 (fun q hq e=>by have:=hp.bM hq;omega);obtain⟨pb,po,pc,rfl,MC,hld⟩:=OE.elem iR hlt;obtain⟨q1,q2,q3⟩:=hpairs i hlt;rw[<-cJ hlt]at hld;have iF:aR H2 ⟨pb,po+i*2,none⟩ 2=some #[.int .i64 ((bg L i).1:Int),.int .i64 ((bg L i).2:Int)]:=hld;simp only[go_sem,zS,↓reduceIte,Za,Zb,Zc,reduceCtorEq,zF,ai,aB,iF];refine⟨by omega,?_⟩;refine ay fun H3 b3 e3 z3 B3 K3=>?_;have s3:=K3.size;have hst:=B3.bK (o:=0) (n:=2) (by simp);have B4:=B3.aA 0 [.int .i64 ((bg L i).1:Int),.int .i64 ((bg L i).2:Int)];have K4:af (fun q=>q=b3) H3 (aA H3 ⟨b3,0,none⟩ [.int .i64 ((bg L i).1:Int),.int .i64 ((bg L i).2:Int)]):=(af.refl _ _).aA _ (.inl rfl);simp only[go_sem,zS,↓reduceIte,Za,Zb,Zc,reduceCtorEq,ae,zF,hst];generalize aA H3 ⟨b3,0,none⟩ [.int .i64 ((bg L i).1:Int),.int .i64 ((bg L i).2:Int)]=H4 at B4 K4⊢;have s4:=K4.size;have hc4:cell H4 ⟨b3,1,none⟩=some (.int .i64 ((bg L i).2:Int)):=by rw[B4.cell];rfl
  have JJ:=K4.bl (K3.bl B2 (by simp)) (by have:=B2.lt;omega);have hcl:=wN JJ q2;have hle:=By L i (bg L i).2 fun _=>true;have Xk:=JJ.bk (o:=(bg L i).2) (by rw[iX];exact q2);simp(disch:=omega)only[go_sem,zS,↓reduceIte,Za,Zb,Zc,reduceCtorEq,ae,hf,hc4,ai,Nat.mul_one,Nat.zero_add,hcl,Xk,IntWalk.i64_in];refine⟨fun x hx=>by simp at hx;rcases hx with rfl|rfl<;>rfl,by omega,by omega,by omega,L.length -(i+1),by omega,i+1,by omega,by omega,by rfl,?_,?_⟩
  ·have B5:=JJ.al (bg L i).2 (.int .i64 ((gD L i (bg L i).2 (fun _=>true):Int)+1));rw[fU,tV q2]at B5;rw[show(nQ n fun c=>((gD L (i+1) c fun _=>true:Nat):Int))=nQ n fun c=>if c=(bg L i).2 then(gD L i (bg L i).2 (fun _=>true):Int)+1 else(gD L i c (fun _=>true):Int)from ff fun c hc=>by
    rw[mj hlt]
    by_cases e:c=(bg L i).2
    ·subst e;simp
    ·have:¬(bg L i).2=c:=fun h=>e h.symm;simp[e,this]]
   exact B5
  ·exact((K2.trans (K3.mono fun _ _ h=>h.elim)).trans' K4 (fun j hj h=>by omega)).trans ((af.refl _ _).al _ (.inl rfl))
 ·have:i=L.length:=by omega
  subst this;have e0:(nQ n fun c=>((gD L L.length c fun _=>true:Nat):Int))=nQ n (tW n R []):=ff fun c hc=>by
   rw[<-hL,wO _ hc];unfold tW;rw[if_neg (by simp)]
   congr 2
  rw[e0]at B2;have OF:=K2.bl MA (by omega);have aar:=hgl;refine aL [40,6,44,2,61,62,63,64,8,70] rfl (fun m f H'=>∃(s:List Nat) (sv:Value),k9 n R s/\m=n -s.length/\Bl H' b [.int .i64 (n:Int),pv,av,bv,sv]/\bY H' sv (iN s)/\(∀q,az sv q->H.size<=q/\q≠bl)∧
    Bl H' bl (iL (nQ n (tW n R s)))/\af (fun q=>q=b\/H.size<=q) H1 H') n ?_ ?_
  ·exact⟨[],_,k9.nil n R,rfl,OF,bY.nil _,fun q h=>h.elim,B2,K2.mono fun q _ h=>.inr (by omega)⟩
  rintro m g H3 ⟨s,sv,hs,rfl,B3,O3,own3,C3,K3⟩;have s3:=K3.size;have hsl:=gu hs.nd hs.lt;have hsn:s.length<=n:=by have:=dw n fun k=>decide (k∈s);omega
  have c0:cell H3 ⟨b,0,none⟩=some (.int .i64 (n:Int)):=by rw[B3.cell];rfl
  have c4:cell H3 ⟨b,4,none⟩=some sv:=by rw[B3.cell];rfl
  simp only[go_sem,zS,↓reduceIte,Za,Zb,Zc,reduceCtorEq,ae,c0,c4,O3.sl.ax,O3.sl.len,bw];refine aC (fun hlt=>?_) (fun gx=>?_)
  ·have hlt:s.length<n:=by omega
   have hC:aG H3 (.slice (some ⟨bl,0,none⟩) n n) (iL (nQ n (tW n R s))):=by
    have:=aG.bl C3 0 n n (Nat.le_refl _) (by rw[iX];omega)
    rwa [List.drop_zero,List.take_of_length_le (by rw[iX];exact Nat.le_refl _)]at this
   refine(hi _ _ 0 H3 hC (by rw[nS];omega)).mono ?_;rintro r H4 ⟨⟨rfl,hno⟩|⟨k,rfl,Ea,hk2,hk3⟩,rfl⟩
   ·have e:decide ((-1:Int)<0)=true:=rfl;simp only[go_sem,zS,↓reduceIte,Za,Zb,Zc,reduceCtorEq,ae,e];have Xl:v8 n R s=none:=by
     cases hx:v8 n R s with
     |none=>rfl
     |some k=>
      obtain⟨h1,h2,_⟩:=iQ hx;exact absurd (List.mem_map.2 ⟨k,List.mem_range.2 h1,pd.2 h2⟩) hno
    have yN:=hs.eq hR (.inr Xl);refine⟨?_,⟨sv,B3,by rw[<-yN];exact O3,fun q hq=>(own3 q hq).1⟩,?_⟩
    ·rw[<-yN,decide_eq_false (by omega)]
    ·exact(K1.any (W:=fun q=>q=b)).trans' K3 (fun i hi h=>by omega)
   ·have Sn:k<n:=by rw[nS]at Ea;exact Ea
    rw[tU _ Sn]at hk2;have hk:v8 n R s=some k:=Oa Sn (pd.1 hk2) fun j hj=>by
     have:=hk3 j hj;rw[tU _ (by omega)]at this
     cases hr:IA n R s j with
     |false=>rfl
     |true=>exact absurd (pd.2 hr) this
    have e:decide ((k:Int)<0)=false:=by rw[decide_eq_false_iff_not];omega
    have hst:=C3.bk (o:=k) (by rw[iX];exact Sn);have C5:=C3.al k (.int .i64 (-1));rw[fU,tV Sn]at C5;have M5:af (fun q=>q=bl) H4 (al H4 ⟨bl,k,none⟩ (.int .i64 (-1))):=(af.refl _ _).al _ (.inl rfl);rw[ae];simp only[go_sem,zS,↓reduceIte,Za,Zb,Zc,reduceCtorEq,e,ai,Nat.mul_one,Nat.zero_add,hst];refine⟨by omega,?_⟩;rw[ae];generalize al H4 ⟨bl,k,none⟩ (.int .i64 (-1))=H5 at C5 M5⊢;have s5:=M5.size;have B5:=M5.bl B3 (by omega);have O5:=O3.ag M5 (fun q hq=>(own3 q hq).2);have c5:cell H5 ⟨b,4,none⟩=some sv:=by rw[B5.cell];rfl
    simp only[go_sem,zS,↓reduceIte,Za,Zb,Zc,reduceCtorEq,zF,c5];refine aF fun H6 b6 e6 z6 B6 K6=>?_;have s6:=K6.size;have ID:Bl H6 b6 (iN [k]):=B6;simp only[go_sem,zS,↓reduceIte,Za,Zb,Zc,reduceCtorEq,ae];have hs6:aG H6 (.slice (some ⟨b6,0,none⟩) 1 1) (iN [k]):=aG.bl ID 0 1 1 (by omega) (by simp[bw]);refine eG (l:=iN s) (m:=iN [k]) (O5.ag K6 (by simp)) hs6 (ji _) rfl (by unfold maxLen;rw[bw,bw];simp;omega) (by rw[bw,bw];simp;omega) fun v' H7 O7 M7 Xm=>?_;have s7:=M7.size;rw[<-FT]at O7;have own8:∀q,az v' q->H.size<=q/\q≠bl:=fun q hq=>by
     rcases Xm q hq with h|h
     ·exact own3 q h
     ·have:=C5.lt;exact⟨by omega,by omega⟩
    have nob:∀q,az sv q->q≠b:=fun q hq=>by have:=(own3 q hq).1;omega
    have B7:=M7.bl (K6.bl B5 (by simp)) (fun h=>nob _ h rfl);have C7:=M7.bl (K6.bl C5 (by simp)) (fun h=>(own3 _ h).2 rfl);have Xn:=B7.bk (o:=4) (by simp);obtain⟨va,vn,vc,rfl⟩:=O7.shape;have B8:=B7.al 4 (.slice va vn vc);have M8:af (fun q=>q=b) H7 (al H7 ⟨b,4,none⟩ (.slice va vn vc)):=(af.refl _ _).al _ (.inl rfl);have K78:af (fun q=>q=b\/H.size<=q) H1 H7:=((K3.trans (M5.mono fun q _ h=>.inr (by omega))).trans (K6.mono fun _ _ h=>h.elim)).trans (M7.mono fun q _ h=>.inr (own3 q h).1);simp only[go_sem,zS,↓reduceIte,Za,Zb,Zc,reduceCtorEq,ae,Xn];generalize al H7 ⟨b,4,none⟩ (.slice va vn vc)=H8 at B8 M8⊢;have s8:=M8.size;have B8':Bl H8 b [.int .i64 (n:Int),pv,av,bv,.slice va vn vc]:=B8;have O8:=O7.ag M8 (fun q hq e=>by have:=(own8 q hq).1;omega);have C8:=M8.bl C7 (by omega);have c1:cell H8 ⟨b,1,none⟩=some pv:=by rw[B8'.cell];rfl
    have K8:=K78.trans (M8.mono fun q _ h=>.inl h);simp only[go_sem,zS,↓reduceIte,Za,Zb,Zc,reduceCtorEq,ae,c1,hp.ax,hp.bI,hp.len];refine aL [64,8,70,63] rfl (fun m f H'=>∃i:Nat,i<=L.length/\m=L.length -i/\f 63=.int .i64 i/\Bl H' bl (iL (nQ n fun c=>(if c=k then-1 else tW n R s c) -(gD L i c fun a=>decide (a=k):Nat)))/\af (fun q=>q=bl) H8 H') L.length ?_ ?_
    ·refine⟨0,by omega,by omega,by simp only[go_sem,zS,↓reduceIte,Za,Zb,Zc,reduceCtorEq,ae];rfl,?_,af.refl _ _⟩;rw[ff (g:=fun i=>if i=k then-1 else tW n R s i) fun c hc=>by simp[gD]];exact C8
    rintro m f H9 ⟨i,rD,rfl,hf,C9,K9⟩;have s9:=K9.size;simp only[go_sem,zS,↓reduceIte,Za,Zb,Zc,reduceCtorEq,ae]at hf;simp only[go_sem,zS,↓reduceIte,Za,Zb,Zc,reduceCtorEq,hf];refine aC (fun hlt=>?_) (fun gx=>?_)
    ·have hlt:i<L.length:=by omega
     have hp9:bo nE 2 H9 pv L:=hp.ag (((K1.any (W:=fun q=>q=b\/H.size<=q)).trans K8).trans (K9.mono fun q _ h=>.inr (by omega))) (fun q hq h=>by
      have:=hp.bM hq;rcases h with h|h
      ·exact BC q hq h
      ·omega)
     obtain⟨pb,po,pc,rfl,MC,hld⟩:=hp9.elem iR hlt;obtain⟨q1,q2,q3⟩:=hpairs i hlt;rw[<-cJ hlt]at hld;have iF:aR H9 ⟨pb,po+i*2,none⟩ 2=some #[.int .i64 ((bg L i).1:Int),.int .i64 ((bg L i).2:Int)]:=hld;simp only[go_sem,zS,↓reduceIte,Za,Zb,Zc,reduceCtorEq,zF,ai,aB,iF];refine⟨by omega,?_⟩;refine ay fun HA bA eA zA BA KA=>?_;have sA:=KA.size;have Xo:=BA.bK (o:=0) (n:=2) (by simp);have BB:=BA.aA 0 [.int .i64 ((bg L i).1:Int),.int .i64 ((bg L i).2:Int)];have KB:af (fun q=>q=bA) HA (aA HA ⟨bA,0,none⟩ [.int .i64 ((bg L i).1:Int),.int .i64 ((bg L i).2:Int)]):=(af.refl _ _).aA _ (.inl rfl);simp only[go_sem,zS,↓reduceIte,Za,Zb,Zc,reduceCtorEq,zF,Xo];refine⟨fun x hx=>by simp at hx;rcases hx with rfl|rfl<;>rfl,?_⟩;rw[ae];generalize aA HA ⟨bA,0,none⟩ [.int .i64 ((bg L i).1:Int),.int .i64 ((bg L i).2:Int)]=HB at BB KB⊢;have sB:=KB.size;have OG:cell HB ⟨bA,0,none⟩=some (.int .i64 ((bg L i).1:Int)):=by rw[BB.cell];rfl
     have OH:cell HB ⟨bA,1,none⟩=some (.int .i64 ((bg L i).2:Int)):=by rw[BB.cell];rfl
     have UW:=KB.bl (KA.bl C9 (by simp)) (by have:=C9.lt;omega);have jF:af (fun q=>q=bl) H8 HB:=(K9.trans (KA.mono fun _ _ h=>h.elim)).trans' KB (fun j hj h=>by omega);have hcl:=wN UW q2;have Xp:=UW.bk (o:=(bg L i).2) (by rw[iX];exact q2);have hc1:=By L i (bg L i).2 fun a=>decide (a=k);have hc2:-1<=(if(bg L i).2=k then-1 else tW n R s (bg L i).2)/\(if(bg L i).2=k then-1 else tW n R s (bg L i).2)<=256:=by
      have h2:=dw n fun a=>R a (bg L i).2&&!decide (a∈s);unfold tW
      split
      ·omega
      ·split<;>omega
     generalize hX:(if(bg L i).2=k then-1 else tW n R s (bg L i).2)=X at hcl hc2;simp only[go_sem,zS,↓reduceIte,Za,Zb,Zc,reduceCtorEq,ae,hf,OG]
     by_cases e1:(bg L i).1=k
     ·have eb:(((bg L i).1:Int)==(k:Int))=true:=by rw[beq_iff_eq,e1]
      simp(disch:=omega)only[go_sem,zS,↓reduceIte,Za,Zb,Zc,reduceCtorEq,ae,eb,hf,OH,ai,Nat.mul_one,Nat.zero_add,hcl,Xp,IntWalk.i64_in];refine⟨by omega,by omega,by omega,by omega,L.length -(i+1),by omega,i+1,by omega,rfl,by rfl,?_,jF.trans ((af.refl _ _).al _ (.inl rfl))⟩;have C11:=UW.al (bg L i).2 (.int .i64 (X -(gD L i (bg L i).2 fun a=>decide (a=k)) -1));rw[fU,tV q2]at C11;rw[ff (g:=fun c=>if c=(bg L i).2 then(X -(gD L i (bg L i).2 fun a=>decide (a=k)) -1)else(if c=k then-1 else tW n R s c) -((gD L i c fun a=>decide (a=k):Nat):Int)) fun c hc=>?_]
      ·exact C11
      ·rw[mj hlt]
       by_cases e:c=(bg L i).2
       ·subst e;rw[hX];simp[e1];omega
       ·have:¬(bg L i).2=c:=fun h=>e h.symm;simp[e,this]
     ·have eb:(((bg L i).1:Int)==(k:Int))=false:=by rw[beq_eq_false_iff_ne];omega
      simp(disch:=omega)only[go_sem,zS,↓reduceIte,Za,Zb,Zc,reduceCtorEq,ae,eb,hf,IntWalk.i64_in];refine⟨by omega,L.length -(i+1),by omega,i+1,by omega,rfl,by rfl,?_,jF⟩;rw[ff (g:=fun c=>(if c=k then-1 else tW n R s c) -((gD L i c fun a=>decide (a=k):Nat):Int)) fun c hc=>?_]
      ·exact UW
      ·rw[mj hlt];simp[e1]
    ·have:i=L.length:=by omega
     subst this;have eL:(nQ n fun c=>(if c=k then-1 else tW n R s c) -((gD L L.length c fun a=>decide (a=k):Nat):Int))=nQ n (tW n R (s++[k])):=ff fun c hc=>by
      rw[<-hL,wO _ hc,FR hR hs hk c hc]
     rw[eL]at C9;have B9:=K9.bl B8' (by omega);refine⟨n -(s++[k]).length,by simp;omega,s++[k],_,hs.snoc hk,rfl,B9,O8.ag K9 (fun q hq=>(own8 q hq).2),own8,C9,K8.trans (K9.mono fun q _ h=>.inr (by omega))⟩
  ·have yN:=hs.eq hR (.inl (by omega));refine⟨?_,⟨sv,B3,by rw[<-yN];exact O3,fun q hq=>(own3 q hq).1⟩,?_⟩
   ·rw[<-yN,decide_eq_true (by omega)]
   ·exact(K1.any (W:=fun q=>q=b)).trans' K3 (fun i hi h=>by omega)
end Go.Mg
namespace Go.Mg
open Go Go.RowKit
def mm (ι:aJ):S:=
 kY [kR 1 (ι.t 196) 0] (.seq (.dr (kW 10 (.ld (.v 1)) (kW 11 (.ld (.v 1)) (kW 12 (.ld (.v 1)) (kW 13 (.nil (.t 12)) (kW 14 (.fa 0 (.t 13)) (kW 15 (.ld (.t 14)) (kW 17 (.ld (.v 1)) (kW 18 (.nil (.t 17)) (kW 19 (.fa 0 (.t 18)) (kW 20 (.ld (.t 19)) (ka 16 (.nq (ι.t 128) 1 24 #[kZ] (.t 15) (.t 15)) (kW 22 (.nil (.t 10)) (kW 23 (.fa 2 (.t 22)) (ka 21 (.nq (ι.t 128) 1 24 #[kZ] (.t 20) (.t 20)) (kb (.st (.t 23) (.t 16)) (kW 24 (.nil (.t 11)) (kW 25 (.fa 3 (.t 24)) (kb (.st (.t 25) (.t 21)) .done .wnil))) .wnil) (kb (.st (.t 23) (.t 16)) (ka 21 (.nq (ι.t 128) 1 24 #[kZ] (.t 20) (.t 20)) (kW 24 (.nil (.t 11)) (kW 25 (.fa 3 (.t 24)) (kb (.st (.t 25) (.t 21)) .done .wnil))) .wnil) .wnil)))) (ka 21 (.nq (ι.t 128) 1 24 #[kZ] (.t 20) (.t 20)) (ka 16 (.nq (ι.t 128) 1 24 #[kZ] (.t 15) (.t 15)) (kW 22 (.nil (.t 10)) (kW 23 (.fa 2 (.t 22)) (kb (.st (.t 23) (.t 16)) (kW 24 (.nil (.t 11)) (kW 25 (.fa 3 (.t 24)) (kb (.st (.t 25) (.t 21)) .done .wnil))) .wnil))) .wnil) .wnil))))))))))))) (kY [kU 26 (.ld (.v 1)),kU 27 (.nil (.t 26)),kU 28 (.fa 0 (.t 27)),kD 29 28,kc 30 (.nq (ι.t 138) 1 24 #[kZ] (.t 29) (.t 29)),kB 2 30] (.seq (kY [kU 31 (.ld (.v 1)),kU 32 (.nil (.t 31)),kU 33 (.fa 1 (.t 32)),kV 34 (.ld (.t 33)),kO 35 34,kC 36 (.int .i64 0)] (.blk 0 (.loop (kY [kH 37 36 35] (.seq (.ite (.v 37) .skip (.exit 0)) (.seq (.blk 1 (kY [kK 38 2 34 36,kN 39 2 38,kd 4 (.new (ι.t 194) #[.int .i64 0,.int .i64 0]),kf (.stn 2 (.v 4) (.t 39))] (.dr (kW 40 (.mv (.v 2)) (kW 41 (.ia 2 1 (.v 4) (.c (.int .i64 1))) (kW 42 (.ld (.t 41)) (kW 43 (.mv (.v 2)) (kW 44 (.ia 2 1 (.v 4) (.c (.int .i64 1))) (kW 45 (.ld (.t 44)) (kW 46 (.is 1 (.t 43) (.t 45)) (kW 48 (.ia 2 1 (.v 4) (.c (.int .i64 0))) (kW 49 (.ld (.t 48)) (ka 47 (.rd (.ld (.t 46))) (ka 50 (.cj (ι.t 26) 1 1 [.t 49]) (ka 51 (.app false (ι.t 26) 1 8 #[.int .i64 0] (.t 47) (.t 50)) (kW 52 (.is 1 (.t 40) (.t 42)) (kb (.st (.t 52) (.t 51)) .done .wnil)) .wnil) .wnil) (ka 50 (.cj (ι.t 26) 1 1 [.t 49]) (ka 47 (.rd (.ld (.t 46))) (ka 51 (.app false (ι.t 26) 1 8 #[.int .i64 0] (.t 47) (.t 50)) (kW 52 (.is 1 (.t 40) (.t 42)) (kb (.st (.t 52) (.t 51)) .done .wnil)) .wnil) .wnil) .wnil)))))))))))))) (.reg [ke 53 36,kB 36 53]))))))) (kY [kU 54 (.ld (.v 1)),kU 55 (.nil (.t 54)),kU 56 (.fa 4 (.t 55)),kV 57 (.ld (.t 56)),kO 58 57,kC 59 (.int .i64 0)] (.blk 2 (.loop (kY [kH 60 59 58] (.seq (.ite (.v 60) .skip (.exit 2)) (.seq (.blk 3 (kY [kK 61 1 57 59,kD 62 61,kd 6 (.new (ι.t 26) #[.int .i64 0]),kf (.st (.v 6) (.t 62))] (.seq (kY [kA 63 2,kU 64 (.ld (.v 6)),kI 65 1 63 64,kV 66 (.ld (.t 65)),kO 67 66,kC 68 (.int .i64 0)] (.blk 4 (.loop (kY [kH 69 68 67] (.seq (.ite (.v 69) .skip (.exit 4)) (.seq (.blk 5 (kY [kK 70 1 66 68,kD 71 70,kB 8 71] (.dr (kW 72 (.ld (.v 1)) (kW 73 (.nil (.t 72)) (kW 74 (.fa 2 (.t 73)) (kW 75 (.ld (.t 74)) (kW 76 (.ld (.v 6)) (kW 77 (.ld (.v 1)) (kW 78 (.nil (.t 77)) (kW 79 (.fa 2 (.t 78)) (kW 80 (.ld (.t 79)) (kW 81 (.ld (.v 6)) (kW 82 (.is 1 (.t 80) (.t 81)) (kW 84 (.ld (.v 1)) (kW 85 (.nil (.t 84)) (kW 86 (.fa 2 (.t 85)) (kW 87 (.ld (.t 86)) (kW 88 (.mv (.v 8)) (kW 89 (.is 1 (.t 87) (.t 88)) (kW 92 (.mv (.v 8)) (ka 83 (.rd (.m (.ldn 1 (.t 82)))) (ka 90 (.rd (.m (.ldn 1 (.t 89)))) (ka 91 (kg (ι.f 132) [.t 83,.t 90]) (ka 93 (kg (ι.f 131) [.t 91,.t 92]) (kW 94 (.is 1 (.t 75) (.t 76)) (kb (.stn 1 (.t 94) (.t 93)) .done .wnil)) .wnil) .wnil) .wnil) (ka 90 (.rd (.m (.ldn 1 (.t 89)))) (ka 83 (.rd (.m (.ldn 1 (.t 82)))) (ka 91 (kg (ι.f 132) [.t 83,.t 90]) (ka 93 (kg (ι.f 131) [.t 91,.t 92]) (kW 94 (.is 1 (.t 75) (.t 76)) (kb (.stn 1 (.t 94) (.t 93)) .done .wnil)) .wnil) .wnil) .wnil) .wnil))))))))))))))))))))))) (.reg [ke 95 68,kB 68 95]))))))) (kY [kU 96 (.ld (.v 1)),kU 97 (.nil (.t 96)),kU 98 (.fa 2 (.t 97)),kD 99 98,kU 100 (.ld (.v 6)),kI 101 1 99 100,kN 102 1 101,kd 103 (kg (ι.f 137) [.t 102])] (.blk 6 (.rf 121 (.v 103) 104 9 (.blk 7 (.dr (kW 105 (.ld (.v 1)) (kW 106 (.nil (.t 105)) (kW 107 (.fa 3 (.t 106)) (kW 108 (.ld (.t 107)) (kW 109 (.mv (.v 9)) (kW 110 (.ld (.v 1)) (kW 111 (.nil (.t 110)) (kW 112 (.fa 3 (.t 111)) (kW 113 (.ld (.t 112)) (kW 114 (.mv (.v 9)) (kW 115 (.is 1 (.t 113) (.t 114)) (kW 117 (.ld (.v 6)) (ka 116 (.rd (.m (.ldn 1 (.t 115)))) (ka 118 (kg (ι.f 131) [.t 116,.t 117]) (kW 119 (.is 1 (.t 108) (.t 109)) (kb (.stn 1 (.t 119) (.t 118)) .done .wnil)) .wnil) .wnil))))))))))))))))))))) (.reg [ke 120 59,kB 59 120]))))))))))
def mq:List RV:=[]
structure j7 (H:Hp) (ab n:Nat) (ps:Nat->Nat->Bool) (vs:List Value) (B:Nat):Prop where
 bl:Bl H ab vs
 len:vs.length=n
 at_:∀i,i<n->aS H (.agg #[vs.getD i undef]) (ps i)
 ge:∀i,i<n->∀q,aU (vs.getD i undef) q->B<=q
variable {H H':Hp} {ab n B i db a:Nat} {ps R:Nat->Nat->Bool} {vs:List Value} {W:Nat->Prop} {v:Value} {ls:Nat->List Nat}
theorem j7.ag (h:j7 H ab n ps vs B) (hk:af W H H') (h1:¬W ab) (h2:∀q,B<=q->q<H.size->¬W q):j7 H' ab n ps vs B:=
 ⟨hk.bl h.bl h1,h.len,fun i hi=>(h.at_ i hi).ag hk fun q hq=>h2 q (h.ge i hi q hq) ((h.at_ i hi).bM hq),h.ge⟩
theorem aG.isCells {l:List Value} (h:aG H v l) {q:Nat} (hq:aU v q):∃C T z,H[q]?=some (.cells C T z):=by
 rcases h with⟨a,c,rfl,_⟩|⟨b,o,c,_,rfl,h0,C,T,z,h1,h2,h3⟩
 ·cases a<;>simp[Mg.aU]at hq
 ·obtain⟨rfl,_⟩:=hq;exact⟨C,T,z,h1⟩
theorem j7.MD {ms:List Nat} (h:j7 H ab n ps vs B) (hk:af (fun q=>q∈ms) H H') (hm:∀q∈ms,H[q]?=some (.deferred (some []))):j7 H' ab n ps vs B:=by
 refine⟨hk.bl h.bl fun hq=>?_,h.len,fun i hi=>(h.at_ i hi).ag hk fun q hq iJ=>?_,h.ge⟩
 ·obtain⟨T,hb⟩:=h.bl;rw[hm _ hq]at hb;cases hb
 ·obtain⟨v,W,e,hV⟩:=h.at_ i hi
  cases e
  obtain⟨C,T,z,hb⟩:=hV.sl.isCells hq;rw[hm _ iJ]at hb;cases hb
theorem j7.congr {Vw:Nat->Nat->Bool} (h:j7 H ab n ps vs B) (e:∀i<n,∀x,ps i x=Vw i x):j7 H ab n Vw vs B:=
 ⟨h.bl,h.len,fun i hi=>(h.at_ i hi).congr (e i hi),h.ge⟩
theorem j7.ld (h:j7 H ab n ps vs B) (hi:i<n):aR H ⟨ab,i,none⟩ 1=some #[vs.getD i undef]:=by
 rw[h.bl.aR (by rw[h.len];omega)];have hl:i<vs.length:=by rw[h.len];exact hi
 have e:vs.getD i undef=vs[i]:=by simp[List.getD_eq_getElem?_getD,hl]
 rw[e,List.drop_eq_getElem_cons hl];rfl
theorem j7.ok (h:j7 H ab n ps vs B) (hi:i<n):bK H ⟨ab,i,none⟩ 1:=h.bl.bK (by rw[h.len];omega)
theorem j7.st (h:j7 H ab n ps vs B) (hi:i<n) {p:Nat->Bool} (hv:aS H (.agg #[v]) p) (hb:∀q,aU v q->B<=q) (hab:ab<B):
  j7 (aA H ⟨ab,i,none⟩ [v]) ab n (fun c=>if c=i then p else ps c) (vs.set i v) B:=by
 have hl:i<vs.length:=by rw[h.len];exact hi
 have K:af (fun q=>q=ab) H (aA H ⟨ab,i,none⟩ [v]):=(af.refl _ _).aA _ (.inl rfl);have e:iE vs i [v]=vs.set i v:=by
  unfold iE;rw[List.set_eq_take_append_cons_drop,if_pos hl];simp
 refine⟨by rw[<-e];exact h.bl.aA i [v],by simp[h.len],fun c hc=>?_,fun c hc q hq=>?_⟩
 ·by_cases ec:c=i
  ·subst ec;simp only[if_true];rw[List.getD_eq_getElem?_getD,List.getElem?_set_self hl];exact hv.ag K fun q hq e=>by have:=hb q hq;omega
  ·simp only[if_neg ec];rw[List.getD_eq_getElem?_getD,List.getElem?_set_ne (fun e=>ec e.symm),<-List.getD_eq_getElem?_getD];exact(h.at_ c hc).ag K fun q hq e=>by have:=h.ge c hc q hq;omega
 ·by_cases ec:c=i
  ·subst ec;rw[List.getD_eq_getElem?_getD,List.getElem?_set_self hl]at hq;exact hb q hq
  ·rw[List.getD_eq_getElem?_getD,List.getElem?_set_ne (fun e=>ec e.symm),<-List.getD_eq_getElem?_getD]at hq;exact h.ge c hc q hq
theorem j7.new (h:Bl H ab (List.replicate n (.slice none 0 0))):j7 H ab n (fun _ _=>false) (List.replicate n (.slice none 0 0)) B:=by
 refine⟨h,by simp,fun i hi=>?_,fun i hi q hq=>?_⟩
 ·rw[List.getD_eq_getElem?_getD,List.getElem?_replicate,if_pos hi];exact aS.empty H none 0
 ·rw[List.getD_eq_getElem?_getD,List.getElem?_replicate,if_pos hi]at hq;exact hq.elim
structure yO (H:Hp) (db n:Nat) (ls:Nat->List Nat) (vs:List Value) (B:Nat):Prop where
 bl:Bl H db vs
 len:vs.length=n
 at_:∀i,i<n->bY H (vs.getD i undef) (iN (ls i))
 ge:∀i,i<n->∀q,az (vs.getD i undef) q->B<=q
 dj:∀i j,i<n->j<n->i≠j->∀q,az (vs.getD i undef) q->¬az (vs.getD j undef) q
theorem yO.ag (h:yO H db n ls vs B) (hk:af W H H') (h1:¬W db) (h2:∀q,B<=q->q<H.size->¬W q):yO H' db n ls vs B:=
 ⟨hk.bl h.bl h1,h.len,fun i hi=>(h.at_ i hi).ag hk fun q hq=>h2 q (h.ge i hi q hq) ((h.at_ i hi).bM hq),h.ge,h.dj⟩
theorem yO.cell (h:yO H db n ls vs B) (hi:i<n):Mg.cell H ⟨db,i,none⟩=some (vs.getD i undef):=by
 have hl:i<vs.length:=by rw[h.len];exact hi
 rw[h.bl.cell];simp[List.getD_eq_getElem?_getD,hl]
theorem yO.new (h:Bl H db (List.replicate n (.slice none 0 0))):yO H db n (fun _=>[]) (List.replicate n (.slice none 0 0)) B:=by
 have e:∀i,i<n->(List.replicate n (Value.slice none 0 0)).getD i undef=.slice none 0 0:=fun i hi=>by rw[List.getD_eq_getElem?_getD,List.getElem?_replicate,if_pos hi];rfl
 refine⟨h,by simp,fun i hi=>?_,fun i hi q hq=>?_,fun i j hi hj WN q hq=>?_⟩
 ·rw[e i hi];exact bY.nil _
 ·rw[e i hi]at hq;exact hq.elim
 ·rw[e i hi]at hq;exact hq.elim
theorem yO.app {H1:Hp} (h:yO H db n ls vs B) (hi:i<n) (hO:bY H1 v (iN (ls i++[a]))) (hK:af (az (vs.getD i undef)) H H1) (hv:∀q,az v q->az (vs.getD i undef) q\/H.size<=q) (hdb:db<B) (hB:B<=H.size):
  yO (al H1 ⟨db,i,none⟩ v) db n (fun c=>if c=i then ls i++[a]else ls c) (vs.set i v) B:=by
 have hl:i<vs.length:=by rw[h.len];exact hi
 have hdbi:∀c,c<n->¬az (vs.getD c undef) db:=fun c hc e=>by have:=h.ge c hc db e;omega
 have B1:=hK.bl h.bl (hdbi i hi);have K:af (fun q=>q=db) H1 (al H1 ⟨db,i,none⟩ v):=(af.refl _ _).al _ (.inl rfl);have e1:∀c,c≠i->(vs.set i v).getD c undef=vs.getD c undef:=fun c hc=>by
  rw[List.getD_eq_getElem?_getD,List.getElem?_set_ne (fun e=>hc e.symm),<-List.getD_eq_getElem?_getD]
 have e2:(vs.set i v).getD i undef=v:=by rw[List.getD_eq_getElem?_getD,List.getElem?_set_self hl];rfl
 have vge:∀q,az v q->B<=q:=fun q hq=>by rcases hv q hq with h'|h';exact h.ge i hi q h';omega
 have vdj:∀c,c<n->c≠i->∀q,az v q->¬az (vs.getD c undef) q:=fun c hc hci q hq iJ=>by
  rcases hv q hq with h'|h'
  ·exact h.dj i c hi hc (fun e=>hci e.symm) q h' iJ
  ·have:=(h.at_ c hc).bM iJ;omega
 refine⟨B1.al i v,by simp[h.len],fun c hc=>?_,fun c hc q hq=>?_,fun c d hc hd hcd q hq iJ=>?_⟩
 ·by_cases ec:c=i
  ·subst ec;rw[e2,if_pos rfl];exact hO.ag K fun q hq e=>by have:=vge q hq;omega
  ·rw[e1 c ec,if_neg ec];exact((h.at_ c hc).ag hK fun q hq iJ=>h.dj c i hc hi ec q hq iJ).ag K fun q hq e=>by have:=h.ge c hc q hq;omega
 ·by_cases ec:c=i
  ·subst ec;rw[e2]at hq;exact vge q hq
  ·rw[e1 c ec]at hq;exact h.ge c hc q hq
 ·by_cases ec:c=i
  ·subst ec;rw[e2]at hq;rw[e1 d (fun e=>hcd e.symm)]at iJ;exact vdj d hd (fun e=>hcd e.symm) q hq iJ
  ·by_cases ed:d=i
   ·subst ed;rw[e2]at iJ;rw[e1 c ec]at hq;exact vdj c hc ec q iJ hq
   ·rw[e1 c ec]at hq;rw[e1 d ed]at iJ;exact h.dj c d hc hd hcd q hq iJ
def iY (L:List NP) (i c:Nat):List Nat:=((L.take i).filter fun p=>decide (p.2=c)).map (·.1)
theorem C0 {L:List NP} (h:i<L.length) (c:Nat):iY L (i+1) c=if c=(bg L i).2 then iY L i c++[(bg L i).1]else iY L i c:=by
 unfold iY;rw[List.take_succ_eq_append_getElem h,List.filter_append,List.map_append,cJ h]
 by_cases e:c=L[i].2
 ·rw[if_pos e];simp[e]
 ·rw[if_neg e];have:¬L[i].2=c:=fun h=>e h.symm;simp[this]
theorem FV (hR:rA n R) {c:Nat}:a∈iY (cy n R) (cy n R).length c↔R a c=true:=by
 unfold iY;rw[List.take_length];simp only[List.mem_map,List.mem_filter,decide_eq_true_eq]
 constructor
 ·rintro⟨p,⟨hp,rfl⟩,rfl⟩;exact(gw.1 hp).2.2
 ·intro h;exact⟨(a,c),⟨gw.2 ⟨(hR _ _ h).1,(hR _ _ h).2,h⟩,rfl⟩,rfl⟩
theorem wP (L:List NP) (i c:Nat):(iY L i c).length<=L.length:=by
 unfold iY;rw[List.length_map];refine Nat.le_trans (List.length_filter_le _ _) ?_;rw[List.length_take];omega
noncomputable def lz (R:Nat->Nat->Bool) (s:List Nat) (i x:Nat):Bool:=decide (i∈s)&&qL R x i
noncomputable def FW (R:Nat->Nat->Bool) (s:List Nat) (a y:Nat):Bool:=decide (y∈s)&&qL R a y
noncomputable def wQ (R:Nat->Nat->Bool) (l:List Nat) (x:Nat):Bool:=l.any fun a=>decide (x=a)||qL R x a
theorem Da (R:Nat->Nat->Bool) (l:List Nat) (a x:Nat):wQ R (l++[a]) x=(wQ R l x||qL R x a||decide (x=a)):=by
 unfold wQ;rw[List.any_append];simp only[List.any_cons,List.any_nil,Bool.or_false]
 cases l.any (fun a=>decide (x=a)||qL R x a)<;>cases qL R x a<;>cases decide (x=a)<;>rfl
theorem FX {l:List Nat} {b:Nat} (h:∀a,a∈l↔R a b=true) (x:Nat):wQ R l x=qL R x b:=by
 rw[Bool.eq_iff_iff,fI];unfold wQ;simp only[List.any_eq_true,Bool.or_eq_true,decide_eq_true_eq,fI]
 constructor
 ·rintro⟨a,ha,e|t⟩
  ·subst e;exact .one ((h x).1 ha)
  ·exact t.trans (.one ((h a).1 ha))
 ·intro t;obtain⟨c,h1,h2⟩:=t.last;exact⟨c,(h c).2 h1,h2⟩
def mr (b n:Nat) (pv sv:Value) (H1 A:Hp) (x y:Value):Prop:=Bl A b [.int .i64 (n:Int),pv,x,y,sv]/\af (fun q=>q=b) H1 A
section
variable {b n:Nat} {pv sv:Value} {H1 A:Hp} {x y:Value}
theorem mr.ME (h:mr b n pv sv H1 A x y) (o:Obj):mr b n pv sv H1 (A.push o) x y:=⟨h.1.push o,h.2.push o⟩
theorem mr.st2 (h:mr b n pv sv H1 A x y) (v:Value):mr b n pv sv H1 (al A ⟨b,2,none⟩ v) v y:=⟨h.1.al 2 v,h.2.al _ (.inl rfl)⟩
theorem mr.nx (h:mr b n pv sv H1 A x y) (v:Value):mr b n pv sv H1 (al A ⟨b,3,none⟩ v) x v:=⟨h.1.al 3 v,h.2.al _ (.inl rfl)⟩
theorem mr.Xq (h:mr b n pv sv H1 A x y):(cell A ⟨b,2,none⟩).isSome=true/\j8 A ⟨b,2,none⟩=false:=h.1.bk (o:=2) (by simp)
theorem mr.Xr (h:mr b n pv sv H1 A x y):(cell A ⟨b,3,none⟩).isSome=true/\j8 A ⟨b,3,none⟩=false:=h.1.bk (o:=3) (by simp)
theorem mr.FY {b1:Nat} {v:Value} (hb:b≠b1) (hB:Bl H1 b1 [v]) (h:mr b n pv sv H1 A x y):af (fun q=>q=b) H1 A/\cell A ⟨b,0,none⟩=some (.int .i64 (n:Int))/\cell A ⟨b1,0,none⟩=some v:=
 ⟨h.2,by rw[h.1.cell];rfl,by rw[(h.2.bl hB fun e=>hb e.symm).cell];rfl⟩
end
def RelSpec (P:Program) (ι:aJ) (k:FuncId):Prop:=∀(n:Nat) (R:Nat->Nat->Bool) (b:Nat) (pv sv:Value) (H:Hp),n<=256->rA n R->yk R->br ι H->(ι.g 125≠b)->Bl H b [.int .i64 (n:Int),pv,.slice none 0 0,.slice none 0 0,sv]->bo nE 2 H pv (cy n R)->(∀q,aU pv q->q≠b)→
 aG H sv (iN (vp n R))->(∀q,aU sv q->q≠b)→
 an P k #[.pointer (some ⟨b,0,none⟩)] H fun r H'=>r=.tuple #[]/\(∃ab bb avs BD B,Bl H' b [.int .i64 (n:Int),pv,.slice (some ⟨ab,0,none⟩) n n,.slice (some ⟨bb,0,none⟩) n n,sv]/\j7 H' ab n (fun i x=>qL R x i) avs B/\j7 H' bb n (fun i x=>qL R i x) BD B∧
  H.size<=ab/\H.size<=bb/\H.size<=B)/\af (fun q=>q=b) H H'
theorem Db {P:Program} {ι:aJ} {k g:FuncId} (hk:iz P k (mm ι) mq 1 121) (ha:gB P (ι.f 137) (ι.f 136)) (hb1:bF P (ι.f 136)=true) (hY:lu P (ι.f 136) (jl ι) jm 2) (htz:mc P ι (ι.f 126)) (hor:nK P (ι.f 132)) (hwi:fc P (ι.f 131)):RelSpec P ι k:=by
 intro n R b pv sv H hn hR hA hT xP hB hp BC hs AM;refine ie hk (args:=[_]) (by simp) ?_;unfold mm mq kA kB kC kD ke kH kI kK kN kO kR kU kV kW ka kb kc kd kf kg kY kZ;have Xj:=hB.lt;have hgl:(cy n R).length<=65536:=Nat.le_trans (rF n R) (Nat.mul_le_mul hn hn);have vr:cell H ⟨b,0,none⟩=some (.int .i64 (n:Int)):=by rw[hB.cell];rfl
 simp only[go_sem,zS,↓reduceIte,Za,Zb,Zc,reduceCtorEq];refine ay fun H1 b1 e1 z1 B1 K1=>?_;have s1:=K1.size;have MA:=K1.bl hB (by simp);have hcp:cell H1 ⟨b1,0,none⟩=some (.pointer (some ⟨b,0,none⟩)):=by rw[B1.cell];rfl
 have vr:cell H1 ⟨b,0,none⟩=some (.int .i64 (n:Int)):=by rw[MA.cell];rfl
 simp only[go_sem,zS,↓reduceIte,Za,Zb,Zc,reduceCtorEq,ae];refine eQ (Q:=fun e f' A=>e=.n/\f'=bN (look [(0,.pointer (some ⟨b,0,none⟩))]) 1 (.pointer (some ⟨b1,0,none⟩))/\∃ab bb,Bl A ab (List.replicate n (.slice none 0 0))/\Bl A bb (List.replicate n (.slice none 0 0))/\H1.size<=ab/\H1.size<=bb/\ab≠bb/\Bl A b [.int .i64 (n:Int),pv,.slice (some ⟨ab,0,none⟩) n n,.slice (some ⟨bb,0,none⟩) n n,sv]/\af (fun q=>q=b) H1 A) ?_ ?_
 rotate_left
 ·refine NT (fun A=>af (fun q=>q=b) H1 A/\Mg.cell A ⟨b,0,none⟩=some (.int .i64 (n:Int))/\Mg.cell A ⟨b1,0,none⟩=some (.pointer (some ⟨b,0,none⟩))) ⟨af.refl _ _,vr,hcp⟩ ?_;have hmx:(0:Int)<=(n:Int)/\(n:Int)<=n/\((24:Nat):Int)*n<=281474976710656/\(n:Int)<=(maxLen:Int):=⟨by omega,by omega,by omega,by unfold maxLen;omega⟩
  have w0:mr b n pv sv H1 H1 (.slice none 0 0) (.slice none 0 0):=⟨MA,af.refl _ _⟩
  have pf:b≠b1:=by omega
  simp(config:={contextual:=true})only[go_sem,zS,↓reduceIte,Za,Zb,Zc,reduceCtorEq,ae,hcp,vr,vX,and_imp,hmx,ai];have hz:∀(A:Hp),Bl (A.push (.cells (rep #[Value.slice none 0 0] n) (ι.t 128))) A.size (List.replicate n (.slice none 0 0)):=fun A=>by
   have:=Bl.cW A (rep #[Value.slice none 0 0] n) (ι.t 128)
   rwa [cx]at this
  have hne:∀(A:Hp),H1.size<=A.size->A.size≠(⟨b,2,none⟩:Addr).block:=fun A h=>by show A.size≠b;omega
  have hne3:∀(A:Hp),H1.size<=A.size->A.size≠(⟨b,3,none⟩:Addr).block:=fun A h=>by show A.size≠b;omega
  have hs1:∀(o:Obj),H1.size<=(H1.push o).size:=fun o=>by simp
  have hs2:∀(o:Obj) (p:Addr) (v:Value),H1.size<=(al (H1.push o) p v).size:=fun o p v=>by rw[eZ];simp
  have h1:=fun o=>w0.ME o;have h2:=fun o o'=>(w0.ME o).ME o';refine⟨⟨mr.FY pf B1 (h1 _),⟨mr.FY pf B1 (h2 _ _),(h2 _ _).Xq,mr.FY pf B1 ((h2 _ _).st2 _),((h2 _ _).st2 _).Xr,mr.FY pf B1 (((h2 _ _).st2 _).nx _),?_⟩,(h1 _).Xq,mr.FY pf B1 ((h1 _).st2 _),mr.FY pf B1 (((h1 _).st2 _).ME _),(((h1 _).st2 _).ME _).Xr,mr.FY pf B1 ((((h1 _).st2 _).ME _).nx _),?_⟩,
   mr.FY pf B1 (h1 _),mr.FY pf B1 (h2 _ _),(h2 _ _).Xq,mr.FY pf B1 ((h2 _ _).st2 _),((h2 _ _).st2 _).Xr,mr.FY pf B1 (((h2 _ _).st2 _).nx _),?_⟩
  ·exact⟨_,_,(((hz H1).push _).dt _ (hne _ (Nat.le_refl _))).dt _ (hne3 _ (Nat.le_refl _)),((hz (H1.push _)).dt _ (hne _ (hs1 _))).dt _ (hne3 _ (hs1 _)),Nat.le_refl _,hs1 _,by simp,(((h2 _ _).st2 _).nx _).1,(((h2 _ _).st2 _).nx _).2⟩
  ·exact⟨_,_,(((hz H1).dt _ (hne _ (Nat.le_refl _))).push _).dt _ (hne3 _ (Nat.le_refl _)),(hz (al (H1.push _) _ _)).dt _ (hne3 _ (hs2 _ _ _)),Nat.le_refl _,hs2 _ _ _,by rw[eZ];simp,((((h1 _).st2 _).ME _).nx _).1,((((h1 _).st2 _).ME _).nx _).2⟩
  ·exact⟨_,_,((hz (H1.push _)).dt _ (hne _ (hs1 _))).dt _ (hne3 _ (hs1 _)),(((hz H1).push _).dt _ (hne _ (Nat.le_refl _))).dt _ (hne3 _ (Nat.le_refl _)),hs1 _,Nat.le_refl _,by simp,(((h2 _ _).st2 _).nx _).1,(((h2 _ _).st2 _).nx _).2⟩
 rintro e f' H2 ⟨rfl,rfl,ab,bb,A2,D2,gab,VA,hab,B2,K2⟩;have s2:=K2.size;have Xs:cell H2 ⟨b1,0,none⟩=some (.pointer (some ⟨b,0,none⟩)):=by rw[(K2.bl B1 (by omega)).cell];rfl
 have Xt:cell H2 ⟨b,0,none⟩=some (.int .i64 (n:Int)):=by rw[B2.cell];rfl
 have aas:=A2.lt;have aat:=D2.lt;simp only[go_sem,zS,↓reduceIte,Za,Zb,Zc,reduceCtorEq,Xs,Xt,ai];refine⟨⟨by omega,by omega,by omega,by unfold maxLen;omega⟩,?_⟩;refine aF fun H3 db e3 z3 C3 K3=>?_;rw[cx]at C3;have s3:=K3.size;have qM:=K3.bl (K2.bl B1 (by omega)) (by simp);have B3:=K3.bl B2 (by simp);have A3:=K3.bl A2 (by simp);have D3:=K3.bl D2 (by simp);have Xu:cell H3 ⟨b1,0,none⟩=some (.pointer (some ⟨b,0,none⟩)):=by rw[qM.cell];rfl
 have Xv:cell H3 ⟨b,1,none⟩=some pv:=by rw[B3.cell];rfl
 have ny:af (fun q=>q=b) H H3:=((K1.any (W:=fun q=>q=b)).trans K2).trans K3.any;have UY:=hp.ag ny BC;have I9:=hs.ag ny AM;have Xw:=fun{A:Hp} (K:af (fun q=>q=b\/H.size<=q) H A)=>(show br ι A from K.bl hT (by
  have:=(show Bl H (ι.g 125) _ from hT).lt;omega))
 simp only[go_sem,zS,↓reduceIte,Za,Zb,Zc,reduceCtorEq,ae,Xu,Xv,hp.ax,hp.bI,hp.len];generalize hL:cy n R=L at hp hgl UY⊢;have hpairs:∀i,i<L.length->(bg L i).1<n/\(bg L i).2<n/\R (bg L i).1 (bg L i).2=true:=fun i hi=>by
  have:bg L i∈cy n R:=by rw[hL,cJ hi];exact List.getElem_mem _
  exact gw.1 this
 refine aL [37,4,36] rfl (fun m f H'=>∃(i:Nat) (dvs:List Value),i<=L.length/\m=L.length -i/\f 36=.int .i64 i/\yO H' db n (iY L i) dvs H3.size/\af (fun q=>q=db) H3 H') L.length ?_ ?_
 ·refine⟨0,List.replicate n (.slice none 0 0),by omega,by omega,by simp only[go_sem,zS,↓reduceIte,Za,Zb,Zc,reduceCtorEq,ae];rfl,?_,af.refl _ _⟩;have:=yO.new (B:=H3.size) C3;exact this
 rintro m f H4 ⟨i,dvs,rD,rfl,hf,L4,K4⟩;have s4:=K4.size;simp only[go_sem,zS,↓reduceIte,Za,Zb,Zc,reduceCtorEq,ae]at hf;simp only[go_sem,zS,↓reduceIte,Za,Zb,Zc,reduceCtorEq,hf];refine aC (fun hlt=>?_) (fun gx=>?_)
 ·have hlt:i<L.length:=by omega
  have hp4:bo nE 2 H4 pv L:=UY.ag K4 (fun q hq e=>by have:=hp.bM hq;omega);obtain⟨pb,po,pc,rfl,MC,hld⟩:=hp4.elem iR hlt;obtain⟨q1,q2,q3⟩:=hpairs i hlt;rw[<-cJ hlt]at hld;have iF:aR H4 ⟨pb,po+i*2,none⟩ 2=some #[.int .i64 ((bg L i).1:Int),.int .i64 ((bg L i).2:Int)]:=hld;simp only[go_sem,zS,↓reduceIte,Za,Zb,Zc,reduceCtorEq,zF,ai,aB,iF];refine⟨by omega,?_⟩;refine ay fun H5 b5 e5 z5 B5 K5=>?_;have s5:=K5.size;have hst:=B5.bK (o:=0) (n:=2) (by simp);have B6:=B5.aA 0 [.int .i64 ((bg L i).1:Int),.int .i64 ((bg L i).2:Int)];have K6:af (fun q=>q=b5) H5 (aA H5 ⟨b5,0,none⟩ [.int .i64 ((bg L i).1:Int),.int .i64 ((bg L i).2:Int)]):=(af.refl _ _).aA _ (.inl rfl);simp only[go_sem,zS,↓reduceIte,Za,Zb,Zc,reduceCtorEq,ae,zF,hst];generalize aA H5 ⟨b5,0,none⟩ [.int .i64 ((bg L i).1:Int),.int .i64 ((bg L i).2:Int)]=H6 at B6 K6⊢;have s6:=K6.size;have OG:cell H6 ⟨b5,0,none⟩=some (.int .i64 ((bg L i).1:Int)):=by rw[B6.cell];rfl
  have OH:cell H6 ⟨b5,1,none⟩=some (.int .i64 ((bg L i).2:Int)):=by rw[B6.cell];rfl
  have hdb:=L4.bl.lt;have K46:af (fun q=>q=b5) H4 H6:=(K5.any (W:=fun q=>q=b5)).trans K6;have L6:=L4.ag K46 (by omega) (fun q h1 h2 e=>by omega);have hcd:=L6.cell q2;refine⟨fun x hx=>by simp at hx;rcases hx with rfl|rfl<;>rfl,?_⟩;have nb5:∀q,q=db\/az (dvs.getD (bg L i).2 undef) q->q≠b5:=fun q hq e=>by
   rcases hq with h|h
   ·omega
   ·have:=(L4.at_ _ q2).bM h;omega
  have hnb:¬(b5=db\/az (dvs.getD (bg L i).2 undef) b5):=fun h=>nb5 _ h rfl;refine bC (fun q=>q=db\/az (dvs.getD (bg L i).2 undef) q) ?_;have K7:∀o,af (fun q=>q=db\/az (dvs.getD (bg L i).2 undef) q) H6 (H6.push o):=fun o=>(af.refl _ _).push o;have MF:=wP L i (bg L i).2;have EL:∀(Kk:Value->Hp->Prop),(∀v' H8,yO (al H8 ⟨db,(bg L i).2,none⟩ v') db n (iY L (i+1)) (dvs.set (bg L i).2 v') H3.size->v'.oneCell'=true->((cell H8 ⟨db,(bg L i).2,none⟩).isSome=true/\j8 H8 ⟨db,(bg L i).2,none⟩=false)->af (fun q=>q=db\/az (dvs.getD (bg L i).2 undef) q) (H6.push (Obj.cells #[Value.int .i64 ((bg L i).1:Int)] (ι.t 26))) H8->af (fun q=>q=db\/az (dvs.getD (bg L i).2 undef) q) H8 (al H8 ⟨db,(bg L i).2,none⟩ v')->af (fun q=>q=db) H3 (al H8 ⟨db,(bg L i).2,none⟩ v')->Kk v' H8)→
    qN false (ι.t 26) 1 8 #[Value.int .i64 0] (dvs.getD (bg L i).2 undef) (.slice (some ⟨H6.size,0,none⟩) 1 1) (H6.push (Obj.cells #[Value.int .i64 ((bg L i).1:Int)] (ι.t 26))) Kk:=by
   intro Kk hKk;have B7:=Bl.cW H6 #[Value.int .i64 ((bg L i).1:Int)] (ι.t 26);have M7:af (fun _=>False) H6 (H6.push (Obj.cells #[Value.int .i64 ((bg L i).1:Int)] (ι.t 26))):=(af.refl _ _).push _;generalize H6.push (Obj.cells #[Value.int .i64 ((bg L i).1:Int)] (ι.t 26))=H7 at B7 M7 hKk⊢;have Sp:Bl H7 H6.size (iN [(bg L i).1]):=B7;have s7:=M7.size;have L7:=L6.ag M7 (by simp) (by simp);have hs7:aG H7 (.slice (some ⟨H6.size,0,none⟩) 1 1) (iN [(bg L i).1]):=aG.bl Sp 0 1 1 (by omega) (by simp[bw]);refine eG (l:=iN (iY L i (bg L i).2)) (m:=iN [(bg L i).1]) (L7.at_ _ q2) hs7 (ji _) rfl (by unfold maxLen;rw[bw,bw];simp;omega) (by rw[bw,bw];simp;omega) fun v' H8 O8 M8 N8=>?_;rw[<-FT]at O8;have s8:=M8.size;have L9:=L7.app q2 O8 M8 N8 (by omega) (by omega);have KD:af (fun q=>q=db) H8 (al H8 ⟨db,(bg L i).2,none⟩ v'):=(af.refl _ _).al _ (.inl rfl);have odb:¬az (dvs.getD (bg L i).2 undef) db:=fun h=>by have:=L7.ge _ q2 _ h;omega
   obtain⟨va,vn,vc,rfl⟩:=O8.shape;refine hKk _ H8 ?_ rfl ?_ (M8.mono fun q _ h=>.inr h) (KD.mono fun q _ h=>.inl h) ?_
   ·have e:iY L (i+1)=fun c=>if c=(bg L i).2 then iY L i (bg L i).2++[(bg L i).1]else iY L i c:=by
     funext c
     rw[C0 hlt]
     by_cases e:c=(bg L i).2
     ·rw[if_pos e,if_pos e,e]
     ·rw[if_neg e,if_neg e]
    rw[e];exact L9
   ·exact(M8.bl L7.bl odb).bk (by rw[L7.len];exact q2)
   ·exact(((K4.trans' K46 (fun j hj h=>by omega)).trans M7.any).trans' M8 (fun j hj h=>by have:=L7.ge _ q2 _ h;omega)).trans KD
  have Xx:∀o,cell (H6.push o) ⟨db,(bg L i).2,none⟩=some (dvs.getD (bg L i).2 undef):=fun o=>(L6.ag (W:=fun _=>False) ((af.refl _ _).push o) (by simp) (by simp)).cell q2;simp only[go_sem,zS,↓reduceIte,Za,Zb,Zc,reduceCtorEq,ae,hf,OG,OH,hcd,Xx,ai,Nat.mul_one,Nat.zero_add];refine⟨by omega,hnb,by omega,hnb,by omega,by omega,hnb,⟨af.refl _ _,K7 _,EL _ fun v' H8 g1 g2 g3 g4 g5 g6=>?_⟩,K7 _,af.refl _ _,EL _ fun v' H8 g1 g2 g3 g4 g5 g6=>?_⟩
  all_goals
   simp(disch:=omega)only[go_sem,zS,↓reduceIte,Za,Zb,Zc,reduceCtorEq,ae,hf,g2,g3,g4,g5,ai,Nat.mul_one,Nat.zero_add,IntWalk.i64_in];exact⟨by omega,g2,L.length -(i+1),by omega,i+1,_,by omega,rfl,by rfl,g1,g6⟩
 ·have:i=L.length:=by omega
  subst this;have hdm:∀a c,a∈iY L L.length c↔R a c=true:=fun a c=>by rw[<-hL];exact FV hR
  have hdlen:∀c,(iY L L.length c).length<=65536:=fun c=>Nat.le_trans (wP L _ c) hgl;generalize OI:iY L L.length=ls at L4 hdm hdlen;have hsn:=(ta hR).2 hA;have hpre:=Bc hR;have B4:=K4.bl B3 (by omega);have Fv:=K4.bl qM (by omega);have Xy:cell H4 ⟨b1,0,none⟩=some (.pointer (some ⟨b,0,none⟩)):=by rw[Fv.cell];rfl
  have Xz:cell H4 ⟨b,4,none⟩=some sv:=by rw[B4.cell];rfl
  have A4:=j7.new (B:=H4.size) (K4.bl A3 (by omega));have D4:=j7.new (B:=H4.size) (K4.bl D3 (by omega));have UZ:af (fun q=>q=b\/H.size<=q) H H4:=(ny.mono fun q _ h=>.inl h).trans (K4.mono fun q _ h=>.inr (by omega));have hs4:=hs.ag UZ (fun q hq h=>by
   rcases h with h|h
   ·exact AM q hq h
   ·have:=hs.bM hq;omega)
  have hs4lt:∀q,aU sv q->q<H.size:=fun q hq=>hs.bM hq;have hT4:=Xw UZ;have aau:=L4.bl.lt;simp only[go_sem,zS,↓reduceIte,Za,Zb,Zc,reduceCtorEq,ae,Xy,Xz,hs.ax,hs.len,bw,hsn];generalize hsd:vp n R=s at hs4 hsn hpre⊢;refine aL [60,6,66,67,68,69,8,103,59,121] rfl (fun m f A=>∃(t:Nat) (avs BD:List Value) (ms:List Nat),t<=n/\m=n -t/\f 59=.int .i64 t/\mW (f 121)=ms/\ms.Nodup/\(∀q∈ms,H4.size<=q/\A[q]?=some (.deferred (some [])))∧
   j7 A ab n (lz R (s.take t)) avs H4.size/\j7 A bb n (FW R (s.take t)) BD H4.size/\af (fun q=>q=ab\/q=bb) H4 A) n ?_ ?_
  ·refine⟨0,_,_,[],by omega,by omega,by simp only[go_sem,zS,↓reduceIte,Za,Zb,Zc,reduceCtorEq,ae];rfl,by rfl,List.nodup_nil,by simp,A4.congr fun i hi x=>by simp[lz],D4.congr fun i hi x=>by simp[FW],af.refl _ _⟩
  rintro m g H5 ⟨t,avs,BD,ms,htn,rfl,hf,hms,hnd,hmk,A5,D5,K5⟩;have s5:=K5.size;simp only[go_sem,zS,↓reduceIte,Za,Zb,Zc,reduceCtorEq,ae]at hf hms;simp only[go_sem,zS,↓reduceIte,Za,Zb,Zc,reduceCtorEq,hf];refine aC (fun hlt=>?_) (fun gx=>?_)
  ·have hlt:t<s.length:=by omega
   have hs5:=hs4.ag K5 (fun q hq h=>by have:=hs4lt q hq;omega);obtain⟨sb,so,sc,rfl,-,-⟩:=hs5.cells (by intro e;have:=congrArg List.length e;rw[bw,List.length_nil]at this;omega);have En:=hs5.AU (i:=t) (by rw[bw];exact hlt);obtain⟨b0,OC⟩:∃b0,b0=s[t]:=⟨_,rfl⟩
   have En:cell H5 ⟨sb,so+t,none⟩=some (.int .i64 (b0:Int)):=by
    rw[En,OC];simp[iN,iL,hlt]
   have qV:b0<n:=by rw[OC];exact hpre.lt _ (List.getElem_mem _)
   simp only[go_sem,zS,↓reduceIte,Za,Zb,Zc,reduceCtorEq,zF,ai,Nat.mul_one,En,bw];refine⟨by omega,?_⟩;refine ay fun H6 b6 e6 z6 B6 K6=>?_;have s6:=K6.size;have yP:=B6.bk (o:=0) (by simp);have B7:=B6.al 0 (.int .i64 (b0:Int));have K7:af (fun q=>q=b6) H6 (al H6 ⟨b6,0,none⟩ (.int .i64 (b0:Int))):=(af.refl _ _).al _ (.inl rfl);simp only[go_sem,zS,↓reduceIte,Za,Zb,Zc,reduceCtorEq,zF,yP];rw[ae];generalize al H6 ⟨b6,0,none⟩ (.int .i64 (b0:Int))=H7 at B7 K7⊢;have s7:=K7.size;have xQ:af (fun q=>q=b6) H5 H7:=(K6.any (W:=fun q=>q=b6)).trans K7;have c6:cell H7 ⟨b6,0,none⟩=some (.int .i64 (b0:Int)):=by rw[B7.cell];rfl
   have L7:yO H7 db n ls dvs H3.size:=(L4.ag K5 (by omega) (fun q h1 h2 e=>by omega)).ag xQ (by omega) (fun q h1 h2 e=>by omega);have cdb:=L7.cell qV;have OL:=L7.at_ b0 qV;have A7:=A5.ag xQ (by omega) (fun q h1 h2 e=>by omega);have D7:=D5.ag xQ (by omega) (fun q h1 h2 e=>by omega);have hm7:∀q∈ms,H7[q]?=some (.deferred (some [])):=fun q hq=>by
    have h:=(hmk q hq).2;have hlt:=(Array.getElem?_eq_some_iff.1 h).1;rw[xQ.at_ q hlt (by omega)];exact h
   have U0:af (fun q=>q=ab\/q=bb) H4 H7:=K5.trans' xQ (fun j hj h=>by omega);have Sq:=U0.bl Fv (by omega);have Dc:=U0.bl B4 (by omega);have hT7:=Xw (UZ.trans (U0.mono fun q _ h=>.inr (by omega)));have XA:∀{A:Hp} {W:Nat->Prop},af W H7 A->(∀q,q<H.size->¬W q)->br ι A:=fun K hw=>K.bl hT7 (hw _ (show Bl H (ι.g 125) _ from hT).lt);have wG:s.take (t+1)=s.take t++[b0]:=by rw[List.take_succ_eq_append_getElem hlt,OC]
   have hb0t:b0∉s.take t:=fun hm=>by
    obtain⟨q,hq,e⟩:=List.getElem_of_mem hm;rw[List.length_take]at hq;rw[List.getElem_take]at e;have:=List.pairwise_iff_getElem.1 hpre.nd q t (by omega) hlt (by omega);exact this (by rw[e,OC])
   have hpr:∀a,R a b0=true->a∈s.take t:=fun a ha=>hpre.closed hR hlt (by rw[<-OC];exact ha);simp only[go_sem,zS,↓reduceIte,Za,Zb,Zc,reduceCtorEq,ae,c6,ai,Nat.mul_one,Nat.zero_add,cdb,OL.sl.ax,OL.sl.len,bw];refine⟨by omega,?_⟩;refine aL [69,8,68] rfl (fun m f A=>∃(j:Nat) (XB:List Value),j<=(ls b0).length/\m=(ls b0).length -j/\f 68=.int .i64 j/\j7 A ab n (fun i=>if i=b0 then wQ R ((ls b0).take j)else lz R (s.take t) i) XB H4.size/\af (fun q=>q=ab) H7 A) (ls b0).length ?_ ?_
   ·refine⟨0,_,by omega,by omega,by simp only[go_sem,zS,↓reduceIte,Za,Zb,Zc,reduceCtorEq,ae];rfl,A7.congr fun i hi x=>?_,af.refl _ _⟩
    by_cases e:i=b0
    ·subst e;simp[lz,wQ,hb0t]
    ·simp[e]
   rintro m f H8 ⟨j,OJ,hj,rfl,tF,A8,K8⟩;have s8:=K8.size;simp only[go_sem,zS,↓reduceIte,Za,Zb,Zc,reduceCtorEq,ae]at tF;simp only[go_sem,zS,↓reduceIte,Za,Zb,Zc,reduceCtorEq,tF];refine aC (fun yQ=>?_) (fun XC=>?_)
   ·have XD:j<(ls b0).length:=by omega
    have L8:yO H8 db n ls dvs H3.size:=L7.ag K8 (by omega) (fun q h1 h2 e=>by omega);have O8:=L8.at_ b0 qV;obtain⟨lb,lo,lc,I8,-,-⟩:=O8.sl.cells (by intro e;have:=congrArg List.length e;rw[bw,List.length_nil]at this;omega);have O8':=O8.sl;rw[I8]at O8';have hcl:=O8'.AU (i:=j) (by rw[bw];exact XD);obtain⟨a,ha⟩:∃a,a=(ls b0)[j]:=⟨_,rfl⟩
    have hcl:cell H8 ⟨lb,lo+j,none⟩=some (.int .i64 (a:Int)):=by
     rw[hcl,ha];simp[iN,iL,XD]
    have Q0:R a b0=true:=(hdm a b0).1 (by rw[ha];exact List.getElem_mem _);have JU:=(hR _ _ Q0).1;have hat:=hpr a Q0;have Sr:a≠b0:=fun e=>hb0t (e▸hat);have Q1:=K8.bl Sq (by omega);have U1:=K8.bl Dc (by omega);have U2:=K8.bl B7 (by omega);have XE:cell H8 ⟨b1,0,none⟩=some (.pointer (some ⟨b,0,none⟩)):=by rw[Q1.cell];rfl
    have XF:cell H8 ⟨b,2,none⟩=some (.slice (some ⟨ab,0,none⟩) n n):=by rw[U1.cell];rfl
    have XG:cell H8 ⟨b6,0,none⟩=some (.int .i64 (b0:Int)):=by rw[U2.cell];rfl
    simp only[go_sem,zS,↓reduceIte,Za,Zb,Zc,reduceCtorEq,ae,tF,I8,ai,Nat.mul_one,Nat.zero_add,hcl,bw];refine⟨by omega,?_⟩;refine bC (fun q=>q=ab) ?_;have XH:¬b1=ab/\¬b=ab/\¬b6=ab:=⟨by omega,by omega,by omega⟩
    simp only[go_sem,zS,↓reduceIte,Za,Zb,Zc,reduceCtorEq,ae,tF,XE,XF,XG,ai,Nat.mul_one,Nat.zero_add,aB,A8.ld qV,A8.ld JU,XH.1,XH.2.1,XH.2.2];have SA:=A8.at_ b0 qV;have SB:=A8.at_ a JU;simp only[if_pos rfl]at SA;rw[if_neg Sr]at SB;refine⟨by omega,by omega,⟨af.refl _ _,af.refl _ _,(hor _ _ _ _ H8 SA SB).mono ?_⟩,af.refl _ _,af.refl _ _,(hor _ _ _ _ H8 SA SB).mono ?_⟩
    all_goals
     rintro r H9 ⟨S9,K9,g9⟩;simp only[go_sem,zS,↓reduceIte,Za,Zb,Zc,reduceCtorEq,ae];refine⟨K9.any,(hwi _ _ (a:Int) H9 S9).mono ?_⟩;rintro r HA ⟨S10,jF,g10⟩;obtain⟨v,Wd,rfl,hV⟩:=S10;have s9:=K9.size;have s10:=jF.size;have OK:j7 HA ab n (fun i=>if i=b0 then wQ R ((ls b0).take j)else lz R (s.take t) i) OJ H4.size:=(A8.ag K9 (by simp) (by simp)).ag jF (by simp) (by simp);have hvb:∀q,aU v q->H4.size<=q:=fun q hq=>by
      rcases g10 q hq with h|h
      ·have:=g9 q h;omega
      ·omega
     have A11:=OK.st qV ⟨v,Wd,rfl,hV⟩ hvb (by omega);have XI:=OK.ok qV;have Dd:af (fun q=>q=ab) HA (aA HA ⟨ab,b0,none⟩ [v]):=(af.refl _ _).aA _ (.inl rfl);have jS:bQ #[v]:=hV.sl.one;simp(disch:=omega)only[go_sem,zS,↓reduceIte,Za,Zb,Zc,reduceCtorEq,ae,tF,ai,Nat.mul_one,Nat.zero_add,eT,cM,aN,IntWalk.i64_in];have hlb:=hdlen b0;refine⟨jF.any,by omega,⟨XI,jS⟩,Dd,(ls b0).length -(j+1),by omega,j+1,_,by omega,rfl,by rw[IntWalk.i64_in _ (by omega)];rfl,A11.congr fun i hi x=>?_,((K8.trans K9.any).trans jF.any).trans Dd⟩
     by_cases e:i=b0
     ·subst e;simp only[if_true];rw[List.take_succ_eq_append_getElem XD,Da,<-ha];unfold gy lz;have e1:decide (((x:Nat):Int)=(a:Int))=decide (x=a):=by rw[decide_eq_decide];omega
      rw[e1]
      by_cases ex:x=a
      ·subst ex;simp[hat];omega
      ·simp[ex,hat]
     ·simp only[if_neg e]
   ·have:j=(ls b0).length:=by omega
    subst this;have A9:j7 H8 ab n (lz R (s.take (t+1))) OJ H4.size:=A8.congr fun i hi x=>by
     by_cases e:i=b0
     ·subst e;simp only[if_true,List.take_length];rw[FX (fun a=>hdm a i) x];unfold lz;rw[wG];simp
     ·simp only[if_neg e];unfold lz;rw[wG];simp[e]
    have Q1:=K8.bl Sq (by omega);have U1:=K8.bl Dc (by omega);have U2:=K8.bl B7 (by omega);have XE:cell H8 ⟨b1,0,none⟩=some (.pointer (some ⟨b,0,none⟩)):=by rw[Q1.cell];rfl
    have XF:cell H8 ⟨b,2,none⟩=some (.slice (some ⟨ab,0,none⟩) n n):=by rw[U1.cell];rfl
    have XG:cell H8 ⟨b6,0,none⟩=some (.int .i64 (b0:Int)):=by rw[U2.cell];rfl
    have D8:=D7.ag K8 (by omega) (fun q h1 h2 e=>by omega);have SA:=A9.at_ b0 qV;obtain⟨v0,W0,wR,hV0⟩:=SA;simp only[Value.agg.injEq,Array.mk.injEq,List.cons.injEq,and_true]at wR;have hm8:∀q∈ms,H8[q]?=some (.deferred (some [])):=fun q hq=>by
     have h:=hm7 q hq;have hlt:=(Array.getElem?_eq_some_iff.1 h).1;rw[K8.at_ q hlt (fun e=>by
      obtain⟨T,hb⟩:=A7.bl;have e:q=ab:=e;rw[e]at h;rw[hb]at h;cases h)]
     exact h
    simp only[go_sem,zS,↓reduceIte,Za,Zb,Zc,reduceCtorEq,ae,XE,XF,XG,ai,Nat.mul_one,Nat.zero_add,aB,A9.ld qV];refine⟨by omega,(ha _ H8).mono ?_⟩;rintro r H9 ⟨rfl,B9,K9,s9⟩;simp only[go_sem,zS,↓reduceIte,Za,Zb,Zc,reduceCtorEq,ae];have s9':=K9.size;have OK:=A9.ag K9 (by simp) (by simp);have D10:=D8.ag K9 (by simp) (by simp);have hV9:eH H9 v0 W0 (lz R (s.take (t+1)) b0):=hV0.ag K9 (by simp);have MC:∀a,lz R (s.take (t+1)) b0 a=qL R a b0:=fun a=>by unfold lz;rw[wG];simp
    generalize N3:lz R (s.take (t+1)) b0=p at hV9 MC;have XJ:Bl H9 H8.size [v0]:=by rw[<-wR];exact B9
    have hmem:∀a∈aD p,R a b0=R a b0/\a<n/\qL R a b0=true:=fun a h=>by
     obtain⟨h1,h2⟩:=bH.1 h;rw[MC]at h2;exact⟨rfl,(hR.tc (fI.1 h2)).1,h2⟩
    have B19:=K9.bl Q1 (by simp);have B49:=K9.bl U1 (by simp);have B69:=K9.bl U2 (by simp);have hb6:=B7.lt;have hT9:br ι H9:=XA (K8.trans K9.any) (fun q hq e=>by omega);refine FA (fun q=>q=bb) (fun k A=>∃yR,j7 A bb n (fun a y=>FW R (s.take t) a y||(decide (y=b0)&&decide (a∈(aD p).take k))) yR H4.size/\∀i<n,∀q,aU (yR.getD i undef) q->q<H9.size\/H9.size+2<=q) (fun _ _=>False) (G:=fun H=>br ι H/\Bl H H8.size [v0]/\eH H v0 W0 p) (by simp only[go_sem,zS,↓reduceIte,Za,Zb,Zc,reduceCtorEq,ae];rfl) hb1 (o9 hY htz) (by omega) ?_ ?_ ?_ ?_ ?_ ?_ ?_
    ·rintro k A KA _;refine⟨KA.bl hT9 (by have:=(show Bl H (ι.g 125) _ from hT).lt;omega),KA.bl XJ (by omega),hV9.ag KA fun q hq e=>?_⟩;have h1:=OK.ge b0 qV q (by rw[wR];exact hq);omega
    ·intro A KA pg;refine⟨BD,(D10.ag KA (by simp) (by simp)).congr fun i hi x=>by simp,fun i hi q hq=>.inl ?_⟩;exact(D10.at_ i hi).bM hq
    ·rintro k A A' pg KA ⟨yR,g1,g2⟩ K;exact⟨yR,⟨K.bl g1.bl (by omega),g1.len,fun i hi=>(g1.at_ i hi).ag K fun q hq e=>by have:=g2 i hi q hq;omega,g1.ge⟩,g2⟩
    ·rintro e A A2 hs KA h;exact h.elim
    ·rintro k A hk KA pg ⟨yR,g1,g2⟩;have hkl:k<(aD p).length:=by simpa[cf]using hk
     obtain⟨a,ha⟩:∃a,a=(aD p)[k]:=⟨_,rfl⟩
     have hxv:(cf p).getD k undef=.int .i64 (a:Int):=by
      rw[List.getD_eq_getElem?_getD,List.getElem?_eq_getElem hk];simp[cf,ha]
     rw[hxv];obtain⟨_,JU,hta⟩:=hmem a (by rw[ha];exact List.getElem_mem _);have Sr:a≠b0:=fun e=>by subst e;exact hA a (fI.1 hta)
     have Q2:=KA.bl B19 (by omega);have B4A:=KA.bl B49 (by omega);have B6A:=KA.bl B69 (by omega);have cpA:cell A ⟨b1,0,none⟩=some (.pointer (some ⟨b,0,none⟩)):=by rw[Q2.cell];rfl
     have c3A:cell A ⟨b,3,none⟩=some (.slice (some ⟨bb,0,none⟩) n n):=by rw[B4A.cell];rfl
     have c6A:cell A ⟨b6,0,none⟩=some (.int .i64 (b0:Int)):=by rw[B6A.cell];rfl
     simp only[go_sem,zS,↓reduceIte,Za,Zb,Zc,reduceCtorEq,ae];refine bC (fun q=>q=bb) ?_;have XK:¬b1=bb/\¬b=bb/\¬b6=bb:=⟨by omega,by omega,by omega⟩
     simp only[go_sem,zS,↓reduceIte,Za,Zb,Zc,reduceCtorEq,ae,cpA,c3A,c6A,ai,Nat.mul_one,Nat.zero_add,aB,g1.ld JU,XK.1,XK.2.1,XK.2.2];refine⟨by omega,af.refl _ _,(hwi _ _ (b0:Int) A (g1.at_ a JU)).mono ?_⟩;rintro r A1 ⟨S1,L1,l1⟩;obtain⟨v,Wd,rfl,hV⟩:=S1;have t1:=L1.size;have G1:=g1.ag L1 (by simp) (by simp);have hvb:∀q,aU v q->H4.size<=q/\(q<H9.size\/H9.size+2<=q):=fun q hq=>by
      rcases l1 q hq with h|h
      ·exact⟨g1.ge a JU q h,g2 a JU q h⟩
      ·exact⟨by omega,by omega⟩
     have G2:=G1.st JU ⟨v,Wd,rfl,hV⟩ (fun q hq=>(hvb q hq).1) (by omega);have okA:=G1.ok JU;have M2:af (fun q=>q=bb) A1 (aA A1 ⟨bb,a,none⟩ [v]):=(af.refl _ _).aA _ (.inl rfl);have jS:bQ #[v]:=hV.sl.one;simp only[go_sem,zS,↓reduceIte,Za,Zb,Zc,reduceCtorEq,ae,ai,Nat.mul_one,Nat.zero_add,eT,cM,aN];refine⟨L1.any,by omega,⟨okA,jS⟩,M2,L1.any.trans (M2.mono fun q _ h=>.inl h),_,G2.congr fun i hi x=>?_,fun i hi q hq=>?_⟩
     ·rw[List.take_succ_eq_append_getElem hkl,<-ha]
      by_cases e:i=a
      ·subst e;simp only[if_true];unfold gy;have e1:decide (((x:Nat):Int)=(b0:Int))=decide (x=b0):=by rw[decide_eq_decide];omega
       rw[e1]
       by_cases ex:x=b0
       ·subst ex;simp;omega
       ·simp[ex]
      ·simp only[if_neg e];simp[e]
     ·by_cases e:i=a
      ·subst e;rw[List.getD_eq_getElem?_getD,List.getElem?_set_self (by rw[g1.len];exact hi)]at hq;exact(hvb q hq).2
      ·rw[List.getD_eq_getElem?_getD,List.getElem?_set_ne (fun h=>e h.symm),<-List.getD_eq_getElem?_getD]at hq;exact g2 i hi q hq
    ·rintro A KA pg hd ⟨yR,g1,g2⟩;simp(disch:=omega)only[go_sem,zS,↓reduceIte,Za,Zb,Zc,reduceCtorEq,ae,hf,hms,IntWalk.i64_in];have hms8:∀q∈ms,q<H8.size:=fun q hq=>(Array.getElem?_eq_some_iff.1 (hm8 q hq)).1;refine⟨n -(t+1),by omega,t+1,OJ,yR,H9.size::ms,by omega,rfl,by rfl,?_,?_,?_,(by rw[<-wG]at*;exact OK.ag KA (by omega) (fun q h1 h2 e=>by omega)),g1.congr fun i hi x=>?_,?_⟩
     ·rfl
     ·exact List.nodup_cons.2 ⟨fun h=>by have:=hms8 _ h;omega,hnd⟩
     ·intro q hq;rcases List.mem_cons.1 hq with e|hq
      ·subst e;exact⟨by omega,hd⟩
      ·refine⟨(hmk q hq).1,?_⟩;have:=hms8 q hq;rw[KA.at_ q (by omega) (fun e=>by
        have e:q=bb:=e;obtain⟨T,hb⟩:=D8.bl;have h:=hm8 q hq;rw[e]at h;rw[hb]at h;cases h),K9.at_ q (by omega) (by simp)]
       exact hm8 q hq
     ·have e0:(aD p).take (cf p).length=aD p:=List.take_of_length_le (by simp[cf]);rw[e0];unfold FW;rw[wG];have em:decide (i∈aD p)=qL R i b0:=by
       rw[Bool.eq_iff_iff,decide_eq_true_iff,bH,MC];exact⟨fun h=>h.2,fun h=>⟨by omega,h⟩⟩
      rw[em]
      by_cases e:x=b0
      ·subst e;simp[hb0t]
      ·simp[e]
     ·exact((U0.trans (K8.mono fun q _ h=>.inl h)).trans K9.any).trans (KA.mono fun q _ h=>.inr h)
    ·rintro e A _ _ _ h;exact h.elim
  ·have ht:t=n:=by omega
   subst ht;have ek:∀i,i<t->i∈s.take t:=fun i hi=>by
    rw[List.take_of_length_le (by omega)];exact oJ hpre.nd hpre.lt (by omega) hi
   simp only[go_sem,zS,↓reduceIte,Za,Zb,Zc,reduceCtorEq,ae,hms];refine⟨hnd,fun m hm=>(hmk m hm).2,fun A2 ha2 hb2=>?_⟩;have M:af (fun q=>q∈ms) H5 A2:=⟨by omega,fun q _ h=>hb2 q h⟩
   have hm5:∀q∈ms,H5[q]?=some (.deferred (some [])):=fun q hq=>(hmk q hq).2;have B5:=K5.bl B4 (by omega);refine⟨⟨ab,bb,avs,BD,H4.size,M.bl B5 (fun h=>by have:=(hmk b h).1;omega),(A5.congr fun i hi x=>?_).MD M hm5,(D5.congr fun i hi x=>?_).MD M hm5,by omega,by omega,by omega⟩,?_⟩
   ·unfold lz;simp[ek i hi]
   ·unfold FW
    cases hx:qL R i x with
    |false=>simp
    |true=>simp[ek x (hR.tc (fI.1 hx)).2]
   ·exact((UZ.trans' K5 (fun j hj h=>by omega)).trans' M (fun j hj h=>by have:=(hmk j h).1;omega)).mono fun q hq h=>by omega
end Go.Mg
namespace Go.Mg
open Go Go.RowKit
def yS (ι:aJ):S:=
 kY [kC 4 (.pointer .none),kC 5 (.int .i64 0)] (.seq (kY [kA 10 0,kU 11 (.cm .lss .i64 (.t 10) (.c (.int .i64 0))),kF 12 11,kS 13 12 false 0,kT 14 12 false (.cm .gtr .i64 (.t 13) (.c (.int .i64 256))),kV 15 (.pick (.t 12) (.c (.bool true)) (.t 14))] (.ite (.v 15) (kY [kC 4 (.pointer .none),kC 5 (.int .i64 1)] .ret) .skip)) (.seq (kY [kV 16 (.mv (.v 1)),kO 17 16,kC 18 (.int .i64 0)] (.blk 0 (.loop (kY [kH 19 18 17] (.seq (.ite (.v 19) .skip (.exit 0)) (.seq (.blk 1 (kY [kK 20 2 16 18,kN 21 2 20,kd 7 (.new (ι.t 194) #[.int .i64 0,.int .i64 0]),kf (.stn 2 (.v 7) (.t 21))] (kY [kP 22 2 1 7 0,kD 23 22,kP 24 2 1 7 1,kD 25 24,kU 26 (.m (.mn (.t 23) (.t 25))),kU 27 (.cm .lss .i64 (.t 26) (.c (.int .i64 0))),kF 28 27,kT 29 28 false (.ia 2 1 (.v 7) (.c (.int .i64 0))),kT 30 28 false (.ld (.t 29)),kT 31 28 false (.ia 2 1 (.v 7) (.c (.int .i64 1))),kT 32 28 false (.ld (.t 31)),kT 33 28 false (.m (.mx (.t 30) (.t 32))),kS 34 28 false 0,kT 35 28 false (.cm .geq .i64 (.t 33) (.t 34)),kV 36 (.pick (.t 28) (.c (.bool true)) (.t 35))] (.ite (.v 36) (kY [kC 4 (.pointer .none),kC 5 (.int .i64 2)] .ret) .skip)))) (.reg [ke 37 18,kB 18 37]))))))) (kY [kc 38 (.cj (ι.t 194) 2 0 []),kA 39 1,kc 40 (.app false (ι.t 194) 2 16 #[.int .i64 0,.int .i64 0] (.t 38) (.t 39)),kB 8 40] (kY [kA 41 8,kc 42 (kg (ι.f 198) [.t 41,.c (.func (.func (ι.f 200)) #[] #[])])] (kY [kA 43 0,kA 44 8,kc 45 (kg (ι.f 193) [.t 44]),kc 46 (kg (ι.f 192) [.t 45]),kU 47 (.m (.jA #[.int .i64 0,kZ,kZ,kZ,kZ] [(0,(1,.t 43)),(1,(1,.t 46))])),kc 48 (.box (ι.t 199) (.t 47)),kB 9 48] (.seq (kY [kA 49 9,kc 50 (kg (ι.f 195) [.t 49]),kV 51 (.not (.t 50))] (.ite (.v 51) (kY [kC 4 (.pointer .none),kC 5 (.int .i64 16)] .ret) .skip)) (kY [kA 52 9,kc 53 (kg (ι.f 197) [.t 52])] (kY [kA 54 9,kB 4 54,kC 5 (.int .i64 0)] .ret))))))))
def yT:List RV:=[.t 4,.t 5]
theorem Ss (a b c d e x:Value):gQ #[a,b,c,d,e] 0 [x]=#[x,b,c,d,e]:=rfl
theorem St (a b c d e x:Value):gQ #[a,b,c,d,e] 1 [x]=#[a,x,c,d,e]:=rfl
variable {H:Hp} {v:Value} {B B':Nat}
theorem bo.conv {α β:Type} {enc:α->List Value} {OM:β->List Value} {k:Nat} {l:List α} {l':List β} (h:bo enc k H v l) (e:l'.length=l.length) (f:l'.flatMap OM=l.flatMap enc):bo OM k H v l':=by
 rcases h with⟨a,c,rfl,rfl⟩|⟨b,o,c,hl,rfl,h0,C,T,z,h1,h2,h3⟩
 ·have:l'=[]:=List.eq_nil_of_length_eq_zero (by simpa using e);subst this;exact bo.nil _ _ _
 ·exact .inr ⟨b,o,c,fun h=>by subst h;exact hl (List.eq_nil_of_length_eq_zero (by simpa using e.symm)),by rw[e],by omega,C,T,z,h1,by rw[e];exact h2,by rw[e,f];exact h3⟩
def tY (H:Hp) (v:Value) (n:Nat) (R:Nat->Nat->Bool):Prop:=n<=256/\rA n R/\yk R/\∃b pv sv ab bb avs BD C,v=.pointer (some ⟨b,0,none⟩)/\Bl H b [.int .i64 (n:Int),pv,.slice (some ⟨ab,0,none⟩) n n,.slice (some ⟨bb,0,none⟩) n n,sv]∧
 bo nE 2 H pv (cy n R)/\j7 H ab n (fun i x=>qL R x i) avs C/\j7 H bb n (fun i x=>qL R i x) BD C/\aG H sv (iN (vp n R))
theorem tY.aj {H':Hp} {n:Nat} {R:Nat->Nat->Bool} (h:tY H v n R) (hk:af (fun _=>False) H H'):tY H' v n R:=by
 obtain⟨h1,h2,h3,b,pv,sv,ab,bb,avs,BD,C,e,g1,g2,g3,g4,g5⟩:=h;exact⟨h1,h2,h3,b,pv,sv,ab,bb,avs,BD,C,e,hk.bl g1 (by simp),g2.aj hk,g3.ag hk (by simp) (by simp),g4.ag hk (by simp) (by simp),g5.ag hk (by simp)⟩
theorem Bl.uniq {b:Nat} {l m:List Value} (h:Bl H b l) (k:Bl H b m):l=m:=by
 obtain⟨T,h⟩:=h;obtain⟨T',k⟩:=k;rw[h]at k;simp only[Option.some.injEq,Obj.cells.injEq]at k;have:=congrArg Array.toList k.1;simpa using this
def U3 (B:Nat) (H:Hp) (v:Value):Prop:=∀b n ab bb pv sv,v=.pointer (some ⟨b,0,none⟩)->Bl H b [.int .i64 ((n:Nat):Int),pv,.slice (some ⟨ab,0,none⟩) n n,.slice (some ⟨bb,0,none⟩) n n,sv]->B<=b/\B<=ab/\B<=bb/\(∀q,aU pv q->B<=q)/\(∀q,aU sv q->B<=q)∧
 ∀vs,(Bl H ab vs\/Bl H bb vs)->∀i<n,∀q,aU (vs.getD i undef) q->B<=q
def FZ (B:Nat) (H:Hp) (r:Value):Prop:=∀v e,r=.tuple #[v,e]->U3 B H v
theorem U3.mono (h:U3 B H v) (hb:B'<=B):U3 B' H v:=fun b n ab bb pv sv e h1=>by
 obtain⟨k1,k2,k3,k4,k5,k6⟩:=h b n ab bb pv sv e h1;exact⟨by omega,by omega,by omega,fun q hq=>Nat.le_trans hb (k4 q hq),fun q hq=>Nat.le_trans hb (k5 q hq),fun vs hv i hi q hq=>Nat.le_trans hb (k6 vs hv i hi q hq)⟩
theorem FZ.mono (h:FZ B H v) (hb:B'<=B):FZ B' H v:=fun v e he=>(h v e he).mono hb
theorem FZ.z (B:Nat) (H:Hp) (e:Value):FZ B H (.tuple #[.pointer none,e]):=fun v e' he b n ab bb pv sv hv=>by
 simp only[Value.tuple.injEq,Array.mk.injEq,List.cons.injEq]at he;rw[<-he.1]at hv
 cases hv
def jT (L:List (Int×Int)) (a b:Nat):Bool:=decide ((((a:Nat):Int),((b:Nat):Int))∈L)
def qW (n:Int) (p:Int×Int):Prop:=0<=p.1/\p.1<n/\0<=p.2/\p.2<n
def ph (n:Int):Prop:=n<0\/256<n
def OP (n:Int) (L:List (Int×Int)) (r:Value) (H:Hp):Prop:=
 (ph n/\r=.tuple #[.pointer none,.int .i64 1])\/(¬ph n/\(¬∀p∈L,qW n p)/\r=.tuple #[.pointer none,.int .i64 2])∨
 (¬ph n/\(∀p∈L,qW n p)/\¬yk (jT L)/\r=.tuple #[.pointer none,.int .i64 16])∨
 (¬ph n/\(∀p∈L,qW n p)/\yk (jT L)/\∃pv,r=.tuple #[pv,.int .i64 0]/\tY H pv n.toNat (jT L))
def toN (p:Int×Int):NP:=(p.1.toNat,p.2.toNat)
theorem toN_flat {n:Int}:∀{L:List (Int×Int)},(∀p∈L,qW n p)->(L.map toN).flatMap nE=L.flatMap pE
 |[],_=>rfl
 |p::L,h=>by
  obtain⟨h1,h2,h3,h4⟩:=h p (by simp);rw[List.map_cons,List.flatMap_cons,List.flatMap_cons,toN_flat fun q hq=>h q (by simp[hq])]
  congr 1
  simp only[nE,toN,pE,Int.toNat_of_nonneg h1,Int.toNat_of_nonneg h3]
theorem toN_rel {n:Int} {L:List (Int×Int)} (h:∀p∈L,qW n p):E7 (L.map toN)=jT L:=by
 funext a b
 unfold E7 jT;rw[decide_eq_decide,List.mem_map]
 constructor
 ·rintro⟨p,hp,e⟩;obtain⟨h1,_,h3,_⟩:=h p hp;simp only[toN,Prod.mk.injEq]at e;have:p=((a:Int),(b:Int)):=Prod.ext (by simp;omega) (by simp;omega);rw[<-this];exact hp
 ·intro hp;exact⟨_,hp,by simp[toN]⟩
def pj (P:Program) (ι:aJ) (k:FuncId):Prop:=∀(n:Int) (L:List (Int×Int)) (v:Value) (H:Hp),br ι H->sN H v L->L.length<1000000->an P k #[.int .i64 n,v] H fun r H'=>OP n L r H'/\af (fun _=>False) H H'/\FZ H.size H' r
theorem JV {P:Program} {ι:aJ} {k:FuncId} (hk:aq P k (yS ι) yT 2) (hso:mb P (ι.f 198) (ι.f 200)) (hcl:wK P (ι.f 192)) (hco:wL P (ι.f 193)) (hos:rG P (ι.f 195)) (hre:RelSpec P ι (ι.f 197)):pj P ι k:=by
 intro n L v H hT hv hn;refine ah hk (args:=[_,_]) (by simp) ?_;unfold yS yT kA kB kF kC kD ke kH kK kN kO kP kS kT kU kV kc kd kf kg kY kZ
 by_cases hn0:n<0
 ·have e1:decide (n<0)=true:=decide_eq_true hn0;simp only[go_sem,zS,↓reduceIte,Za,Zb,Zc,reduceCtorEq,ae,e1,Bool.not_true];exact⟨.inl ⟨.inl hn0,rfl⟩,af.refl _ _,FZ.z _ _ _⟩
 have e1:decide (n<0)=false:=decide_eq_false hn0
 by_cases U4:n>256
 ·have e2:decide (n>256)=true:=decide_eq_true U4;simp only[go_sem,zS,↓reduceIte,Za,Zb,Zc,reduceCtorEq,ae,e1,e2,Bool.not_false];exact⟨.inl ⟨.inr U4,rfl⟩,af.refl _ _,FZ.z _ _ _⟩
 have e2:decide (n>256)=false:=decide_eq_false U4;have nz:¬ph n:=by unfold ph;omega
 simp only[go_sem,zS,↓reduceIte,Za,Zb,Zc,reduceCtorEq,ae,e1,e2,Bool.not_false,hv.ax,hv.bI,hv.len];refine aL [19,7,36,4,5,18] rfl (fun m f A=>∃i:Nat,i<=L.length/\m=L.length -i/\f 18=.int .i64 i/\(∀p∈L.take i,qW n p)/\af (fun _=>False) H A) L.length ?_ ?_
 ·exact⟨0,by omega,by omega,by simp only[go_sem,zS,↓reduceIte,Za,Zb,Zc,reduceCtorEq,ae];rfl,by simp,af.refl _ _⟩
 rintro m f H1 ⟨i,hi,rfl,hf,hok,K1⟩;have s1:=K1.size;simp only[go_sem,zS,↓reduceIte,Za,Zb,Zc,reduceCtorEq,ae]at hf;simp only[go_sem,zS,↓reduceIte,Za,Zb,Zc,reduceCtorEq,hf];refine aC (fun hlt=>?_) (fun gx=>?_)
 ·have hlt:i<L.length:=by omega
  have hv1:=hv.aj K1;obtain⟨pb,po,pc,rfl,MC,hld⟩:=hv1.elem oG hlt;obtain⟨p,hp⟩:∃p,p=L[i]:=⟨_,rfl⟩
  rw[<-hp]at hld;have iF:aR H1 ⟨pb,po+i*2,none⟩ 2=some #[.int .i64 p.1,.int .i64 p.2]:=hld;simp only[go_sem,zS,↓reduceIte,Za,Zb,Zc,reduceCtorEq,zF,ai,aB,iF];refine⟨by omega,?_⟩;refine ay fun H2 b2 e2' z2 B2 K2=>?_;have s2:=K2.size;have hst:=B2.bK (o:=0) (n:=2) (by simp);have B3:=B2.aA 0 [.int .i64 p.1,.int .i64 p.2];have K3:af (fun q=>q=b2) H2 (aA H2 ⟨b2,0,none⟩ [.int .i64 p.1,.int .i64 p.2]):=(af.refl _ _).aA _ (.inl rfl);simp only[go_sem,zS,↓reduceIte,Za,Zb,Zc,reduceCtorEq,zF,hst];refine⟨fun x hx=>by simp at hx;rcases hx with rfl|rfl<;>rfl,?_⟩;rw[ae];generalize aA H2 ⟨b2,0,none⟩ [.int .i64 p.1,.int .i64 p.2]=H3 at B3 K3⊢;have OG:cell H3 ⟨b2,0,none⟩=some (.int .i64 p.1):=by rw[B3.cell];rfl
  have OH:cell H3 ⟨b2,1,none⟩=some (.int .i64 p.2):=by rw[B3.cell];rfl
  have mf:af (fun _=>False) H H3:=(K1.trans K2).bD K3 (by omega);have hpL:p∈L:=by rw[hp];exact List.getElem_mem _
  by_cases h1:(if p.2<p.1 then p.2 else p.1)<0
  ·have e3:decide ((if p.2<p.1 then p.2 else p.1)<0)=true:=decide_eq_true h1;simp only[go_sem,zS,↓reduceIte,Za,Zb,Zc,reduceCtorEq,ae,hf,OG,OH,e3,Bool.not_true];refine⟨by omega,by omega,rfl,.inr (.inl ⟨nz,fun h=>?_,rfl⟩),mf,FZ.z _ _ _⟩;have:=h p hpL;unfold qW at this;split at h1<;>omega
  ·have e3:decide ((if p.2<p.1 then p.2 else p.1)<0)=false:=decide_eq_false h1
   by_cases h2:(if p.2>p.1 then p.2 else p.1)≥n
   ·have e4:decide ((if p.2>p.1 then p.2 else p.1)≥n)=true:=decide_eq_true h2;simp only[go_sem,zS,↓reduceIte,Za,Zb,Zc,reduceCtorEq,ae,hf,OG,OH,e3,e4,Bool.not_false];refine⟨by omega,by omega,rfl,by omega,by omega,rfl,.inr (.inl ⟨nz,fun h=>?_,rfl⟩),mf,FZ.z _ _ _⟩;have:=h p hpL;unfold qW at this;split at h2<;>omega
   ·have e4:decide ((if p.2>p.1 then p.2 else p.1)≥n)=false:=decide_eq_false h2;simp only[go_sem,zS,↓reduceIte,Za,Zb,Zc,reduceCtorEq,ae,hf,OG,OH,e3,e4,Bool.not_false];refine⟨by omega,by omega,rfl,by omega,by omega,rfl,L.length -(i+1),by omega,i+1,by omega,rfl,by rw[IntWalk.i64_in _ (by omega)];rfl,fun q hq=>?_,mf⟩;rw[List.take_succ_eq_append_getElem hlt,List.mem_append]at hq;rcases hq with hq|hq
    ·exact hok q hq
    ·simp only[List.mem_singleton]at hq;rw[<-hp]at hq;subst hq;unfold qW
     split at h1<;>split at h2<;>omega
 ·have:i=L.length:=by omega
  subst this;rw[List.take_length]at hok;have hv1:=hv.aj K1;refine aF fun H2 b2 e2' z2 B2 K2=>?_;have s2:=K2.size;simp only[go_sem,zS,↓reduceIte,Za,Zb,Zc,reduceCtorEq];have hx:bo nE 2 H2 v (L.map toN):=(hv1.aj K2).conv (by simp) (toN_flat hok);have pg:dG nE 2 H2 (.slice (some ⟨b2,0,none⟩) 0 0) []:=dG.bl B2 rfl (by omega) (by omega) (by simp);refine sJ (l:=([]:List NP)) (m:=L.map toN) H.size iR Fa pg (fun q hq=>by have hq:q=b2:=hq;omega) (by omega) hx rfl (by omega) (by simp;omega) fun v3 H3 O3 own3 K3=>?_;rw[List.nil_append]at O3;have s3:=K3.size;have hR:rA n.toNat (E7 (L.map toN)):=rA.E7 fun q hq=>by
   obtain⟨p,hp,rfl⟩:=List.mem_map.1 hq;obtain⟨h1,h2,h3,h4⟩:=hok p hp;exact⟨by simp only[toN];omega,by simp only[toN];omega⟩
  have hlm:∀q∈L.map toN,q.1<256/\q.2<256:=fun q hq=>by
   obtain⟨p,hp,rfl⟩:=List.mem_map.1 hq;obtain⟨h1,h2,h3,h4⟩:=hok p hp;exact⟨by simp only[toN];omega,by simp only[toN];omega⟩
  have hlr:∀q∈L.map toN,q.1<n.toNat/\q.2<n.toNat:=fun q hq=>by
   obtain⟨p,hp,rfl⟩:=List.mem_map.1 hq;obtain⟨h1,h2,h3,h4⟩:=hok p hp;exact⟨by simp only[toN];omega,by simp only[toN];omega⟩
  simp only[go_sem,zS,↓reduceIte,Za,Zb,Zc,reduceCtorEq,ae];refine(hso _ v3 H3 O3 hlm (by simp;omega)).mono ?_;rintro r H4 ⟨rfl,⟨l',MG,yN,O4⟩,K4⟩;have s4:=K4.size;have hl4:l'.length=L.length:=by rw[MG.length_eq];simp
  simp only[go_sem,zS,↓reduceIte,Za,Zb,Zc,reduceCtorEq,ae];refine(hco l' v3 H4 O4 (by omega)).mono ?_;rintro r5 H5 ⟨S5,own5,K5⟩;have s5:=K5.size;rw[E9 MG yN hlr]at S5;simp only[go_sem,zS,↓reduceIte,Za,Zb,Zc,reduceCtorEq,ae];refine(hcl _ r5 H5 S5).mono ?_;rintro r6 H6 ⟨S6,own6,rfl⟩;obtain⟨pa,pc,rfl,hpc⟩:=S6.mk;rw[ae];simp only[go_sem,zS,↓reduceIte,Za,Zb,Zc,reduceCtorEq,zF,Ss,St];refine⟨by omega,?_⟩;refine ay fun H7 b7 e7 z7 B7 K7=>?_;have s7:=K7.size;have Su:((n.toNat:Nat):Int)=n:=by unfold ph at nz;omega
  have Sp:Bl H7 b7 [.int .i64 ((n.toNat:Nat):Int),.slice pa (cy n.toNat (E7 (L.map toN))).length pc,.slice none 0 0,.slice none 0 0,.slice none 0 0]:=by rw[Su];exact B7
  have S7:=S6.aj K7;have BC:∀q,aU (.slice pa (cy n.toNat (E7 (L.map toN))).length pc) q->q≠b7:=fun q hq=>by have:=S6.bM hq;omega
  have Q3:af (fun _=>False) H H6:=((K1.trans K2).lW K3 (Nat.le_refl _)).trans' (K4.trans K5) (fun j hj h=>by have:=own3 j h;omega);simp only[go_sem,zS,↓reduceIte,Za,Zb,Zc,reduceCtorEq,ae];refine(hos n.toNat _ b7 _ _ _ H7 (by unfold ph at nz;omega) hR Sp S7 BC).mono ?_;rintro r H8 ⟨rfl,⟨sv,B8,O8,own8⟩,K8⟩;have s8:=K8.size;have IE:af (fun _=>False) H H8:=(Q3.trans K7).bD K8 (by omega);rw[toN_rel hok]at*
  by_cases hA:yk (jT L)
  ·have e:decide ((vp n.toNat (jT L)).length=n.toNat)=true:=decide_eq_true ((ta hR).2 hA);simp only[go_sem,zS,↓reduceIte,Za,Zb,Zc,reduceCtorEq,ae,e,Bool.not_true];have S8:=S7.ag K8 BC;have xP:ι.g 125≠b7:=by have:=(show Bl H (ι.g 125) _ from hT).lt;omega
   have AM:∀q,aU sv q->q≠b7:=fun q hq=>by have:=own8 q (O8.aU hq);omega
   refine(hre n.toNat _ b7 _ sv H8 (by unfold ph at nz;omega) hR hA (hT.ag IE) xP B8 S8 BC O8.sl AM).mono ?_;rintro r H9 ⟨rfl,⟨ab,bb,avs,BD,C,B9,A9,D9,h1,h2,h3⟩,K9⟩;simp only[go_sem,zS,↓reduceIte,Za,Zb,Zc,reduceCtorEq,ae];refine⟨.inr (.inr (.inr ⟨nz,hok,hA,_,rfl,?_⟩)),IE.bD K9 (by omega),fun v' e' he b n' Sv Sw U5 nT MH jz=>?_⟩
   rotate_left
   ·simp only[Value.tuple.injEq,Array.mk.injEq,List.cons.injEq,and_true]at he;rw[<-he.1]at MH
    cases MH
    have hl:=B9.uniq jz;simp only[List.cons.injEq,Value.int.injEq,Value.slice.injEq,Option.some.injEq,Addr.mk.injEq,and_true,true_and]at hl;obtain⟨l1,l2,l3,l4,l5⟩:=hl;obtain⟨rfl,-⟩:=l3;obtain⟨rfl,-⟩:=l4;subst l5;refine⟨by omega,by omega,by omega,fun q hq=>?_,fun q hq=>?_,fun vs hvs i hi q hq=>?_⟩
    ·rw[<-l2]at hq;have:=own3 q (own5 q (own6 q hq));omega
    ·have:=own8 q (O8.aU hq);omega
    ·rcases hvs with hvs|hvs
     ·have:=hvs.uniq A9.bl;subst this;have:=A9.ge i (by omega) q hq;omega
     ·have:=hvs.uniq D9.bl;subst this;have:=D9.ge i (by omega) q hq;omega
   exact⟨by unfold ph at nz;omega,hR,hA,b7,_,sv,ab,bb,avs,BD,C,rfl,B9,S8.ag K9 BC,A9,D9,O8.sl.ag K9 AM⟩
  ·have e:decide ((vp n.toNat (jT L)).length=n.toNat)=false:=decide_eq_false fun h=>hA ((ta hR).1 h);simp only[go_sem,zS,↓reduceIte,Za,Zb,Zc,reduceCtorEq,ae,e,Bool.not_false];exact⟨.inr (.inr (.inl ⟨nz,hok,hA,rfl⟩)),IE,FZ.z _ _ _⟩
end Go.Mg
namespace Go.Mg
open Go Go.RowKit
def yU (ι:aJ):S:=
 kY [kC 2 (kZ)] (.seq (kY [kA 3 0,kV 4 (.m (.eqn .sl false (.t 3)))] (.ite (.v 4) (kY [kC 2 (kZ)] .ret) .skip)) (kY [kc 5 (.cj (ι.t 194) 2 0 []),kA 6 0,kc 7 (.app false (ι.t 194) 2 16 #[.int .i64 0,.int .i64 0] (.t 5) (.t 6)),kB 2 7] .ret))
def yV:List RV:=[.t 2]
abbrev OO:=Option (Nat×(Nat->Nat->Bool))
def OQ (H:Hp) (v:Value):OO->Prop
 |none=>v=.pointer none
 |some o=>tY H v o.1 o.2
variable {H H':Hp} {v:Value} {n:Nat} {R:Nat->Nat->Bool}
theorem OQ.aj {o:OO} (h:OQ H v o) (hk:af (fun _=>False) H H'):OQ H' v o:=by
 cases o with
 |none=>exact h
 |some o=>exact tY.aj h hk
def BE (D:Nat) (H:Hp) (v:Value):Prop:=∀b n ab bb pv sv vs,v=.pointer (some ⟨b,0,none⟩)->Bl H b [.int .i64 ((n:Nat):Int),pv,.slice (some ⟨ab,0,none⟩) n n,.slice (some ⟨bb,0,none⟩) n n,sv]->(Bl H ab vs\/Bl H bb vs)->∀i<n,∀q,aU (vs.getD i undef) q->q<D
theorem Sx {n':Nat} {pv U5 sv nT:Value} {ab bb Sv Sw:Nat} (h: [Value.int .i64 ((n:Nat):Int),pv,.slice (some ⟨ab,0,none⟩) n n,.slice (some ⟨bb,0,none⟩) n n,sv]=[.int .i64 ((n':Nat):Int),U5,.slice (some ⟨Sv,0,none⟩) n' n',.slice (some ⟨Sw,0,none⟩) n' n',nT]):n=n'/\ab=Sv/\bb=Sw:=by
 simp only[List.cons.injEq,Value.int.injEq,Value.slice.injEq,Option.some.injEq,Addr.mk.injEq,and_true,true_and]at h;exact⟨by omega,h.2.2.1.1,h.2.2.2.1.1⟩
theorem tY.db (h:tY H v n R):BE H.size H v:=by
 obtain⟨h1,h2,h3,b,pv,sv,ab,bb,avs,BD,C,rfl,g1,g2,g3,g4,g5⟩:=h;intro b' n' Sv Sw U5 nT vs e hb hv i hi q hq
 cases e
 obtain⟨rfl,rfl,rfl⟩:=Sx (g1.uniq hb);rcases hv with hv|hv
 ·have:=hv.uniq g3.bl;subst this;exact(g3.at_ i hi).bM hq
 ·have:=hv.uniq g4.bl;subst this;exact(g4.at_ i hi).bM hq
theorem BE.aj {D:Nat} (h:tY H v n R) (hd:BE D H v) (hk:af (fun _=>False) H H'):BE D H' v:=by
 obtain⟨h1,h2,h3,b,pv,sv,ab,bb,avs,BD,C,rfl,g1,g2,g3,g4,g5⟩:=h;intro b' n' Sv Sw U5 nT vs e hb hv i hi q hq
 cases e
 obtain⟨rfl,rfl,rfl⟩:=Sx ((hk.bl g1 (by simp)).uniq hb);rcases hv with hv|hv
 ·have:=hv.uniq (hk.bl g3.bl (by simp));subst this;exact hd b n ab bb pv sv _ rfl g1 (.inl g3.bl) i hi q hq
 ·have:=hv.uniq (hk.bl g4.bl (by simp));subst this;exact hd b n ab bb pv sv _ rfl g1 (.inr g4.bl) i hi q hq
end Go.Mg
