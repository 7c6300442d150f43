/- Lemmas of ours. No conditions. -/
import Derived.Test.YteeemadonfcliabGreatDoorMgSo
import Derived.Test.YteeemadonfcliabGreatDoorMgFB
open Nat renaming reduceEqDiff→Za,reduceAdd→Zb,reduceMul→Zc
set_option linter.all false
set_option maxRecDepth 100000
namespace Go.Mg
open Go Go.RowKit
def vX (ι:aC):S:=
 kY [kC 2 (kZ)] (kY [kA 3 0,kA 4 0,kL 5 4,kA 6 0,kL 7 6,kU 8 (.m (.slm 2 (.t 3) .none (.t 5) (.t 7))),kB 2 8] .ret)
def vY:List RV:=[.t 2]
def lM (ι:aC):S:=
 kY [kC 2 (kZ)] (.seq (kY [kA 6 0,kL 7 6,kV 8 (.cm .lss .i64 (.t 7) (.c (.int .i64 2)))] (.ite (.v 8) (kY [kA 9 0,kB 2 9] .ret) .skip)) (.seq (kY [kC 3 (.int .i64 1)] (.blk 0 (.loop (.seq (kY [kA 10 3,kA 11 0,kL 12 11,kV 13 (.cm .lss .i64 (.t 10) (.t 12))] (.ite (.v 13) .skip (.exit 0))) (.seq (.blk 1 (kY [kA 16 0,kA 17 3,kI 18 2 16 17,kN 19 2 18,kA 20 0,kA 21 3,kU 22 (.ar .sub .i64 (.t 21) (.c (.int .i64 1))),kI 23 2 20 22,kN 24 2 23,kV 25 (.m (.eqa false .i64 2 (.t 19) (.t 24)))] (.ite (.v 25) (kY [kA 26 0,kA 27 3,kU 28 (.m (.sls 2 (.t 26) (.some (.t 27)) .none)),kB 4 28] (.seq (kY [kC 5 (.int .i64 1)] (.blk 2 (.loop (.seq (kY [kA 29 5,kA 30 4,kL 31 30,kV 32 (.cm .lss .i64 (.t 29) (.t 31))] (.ite (.v 32) .skip (.exit 2))) (.seq (.blk 3 (kY [kA 35 4,kA 36 5,kI 37 2 35 36,kN 38 2 37,kA 39 4,kA 40 5,kU 41 (.ar .sub .i64 (.t 40) (.c (.int .i64 1))),kI 42 2 39 41,kN 43 2 42,kV 44 (.m (.eqa true .i64 2 (.t 38) (.t 43)))] (.ite (.v 44) (kY [kA 45 0,kA 46 3,kA 47 4,kA 48 5,kI 49 2 47 48,kN 50 2 49,kI 51 2 45 46,kf (.stn 2 (.t 51) (.t 50))] (.reg [kA 52 3,kU 53 (.ar .add .i64 (.t 52) (.c (.int .i64 1))),kB 3 53])) .skip))) (.reg [kA 33 5,kU 34 (.ar .add .i64 (.t 33) (.c (.int .i64 1))),kB 5 34])))))) (kY [kA 54 0,kA 55 3,kU 56 (.m (.sls 2 (.t 54) (.some (.t 55)) .none)),kf (.clr #[.int .i64 0,.int .i64 0] (.t 56))] (kY [kA 57 0,kA 58 3,kU 59 (.m (.sls 2 (.t 57) .none (.some (.t 58)))),kB 2 59] .ret)))) .skip))) (.reg [kA 14 3,kU 15 (.ar .add .i64 (.t 14) (.c (.int .i64 1))),kB 3 15])))))) (kY [kA 60 0,kB 2 60] .ret)))
def lN:List RV:=[.t 2]
def zk (P:Program) (k:FuncId):Prop:=∀(l:List NP) (v:Value) (H:Hp),bk nE 2 H v l->ak P k #[v] H fun r H'=>bk nE 2 H' r l/\(∀q,aV r q->aV v q)/\H'=H
variable {P:Program} {ι:aC} {k:FuncId} {L xs:List Value} {o:Nat}
theorem IS (hk:an P k (vX ι) vY 1):zk P k:=by
 intro l v H hv;refine ah hk (args:=[_]) (by simp) ?_;unfold vX vY kA kB kC kL kU kY kZ;obtain⟨a,c,rfl,hc⟩:=hv.mk;have ea:(if l.length=0 then a else Option.map (fun x=>x) a)=a:=by cases a<;>simp
 simp only[go_sem,zS,↓reduceIte,Za,Zb,Zc,reduceCtorEq,ae,ea];refine⟨⟨by omega,by omega,by omega,by omega⟩,?_,fun q hq=>?_⟩
 ·rcases hv with⟨_,_,h,rfl⟩|⟨b,o,c',hl,h,h0,C,T,z,h1,h2,h3⟩
  ·exact bk.nil _ _ _
  ·cases h
   exact .inr ⟨b,o,_,hl,rfl,Nat.le_refl _,C,T,z,h1,h2,h3⟩
 ·cases a with
  |none=>exact hq.elim
  |some p=>exact hq
theorem IT (a b:NP):([(a.1:Int),(a.2:Int)]==[(b.1:Int),(b.2:Int)])=decide (a=b):=by
 obtain⟨a1,a2⟩:=a;obtain⟨b1,b2⟩:=b;rw[Bool.eq_iff_iff];simp;omega
theorem IU {t:Nat} (h:t<=o) (ho:o<=L.length):(nJ L o xs).take t=L.take t:=by
 unfold nJ;rw[List.append_assoc,List.take_append_of_le_length (by rw[List.length_take];omega),List.take_take,Nat.min_eq_left h]
theorem F3 (ho:o<=L.length):(nJ L o xs).take (o+xs.length)=L.take o++xs:=by
 unfold nJ;exact List.take_left' (by rw[List.length_append,List.length_take];omega)
theorem IV {d:Nat} (h:o+xs.length<=d) (ho:o<=L.length):(nJ L o xs).drop d=L.drop d:=by
 unfold nJ;have e:(L.take o++xs).length=o+xs.length:=by rw[List.length_append,List.length_take];omega
 rw[show d=(o+xs.length)+(d -(o+xs.length)) by omega,<-List.drop_drop,List.drop_left' e,List.drop_drop]
theorem ES {H:Hp} {b:Nat} (h:Bl H b L) {j:Nat} {p:NP} (hL:j*2+2<=L.length) (hp:(L.drop (j*2)).take 2=nE p):aR H ⟨b,j*2,none⟩ 2=some #[.int .i64 (p.1:Int),.int .i64 (p.2:Int)]:=by
 rw[h.aR (by omega),hp];rfl
def zl (P:Program) (k:FuncId):Prop:=∀(l:List NP) (v:Value) (H:Hp),ct nE 2 H v l->l.length<1000000->ak P k #[v] H fun r H'=>bk nE 2 H' r (pN l l.length)/\(∀q,aV r q->ay v q)/\af (ay v) H H'
theorem zm (hk:an P k (lM ι) lN 1):zl P k:=by
 intro l v H hv hn;refine ah hk (args:=[_]) (by simp) ?_;unfold lM lN kA kB kC kI kL kN kU kV kf kY kZ;have hs:=hv.sl
 by_cases h0:l=[]
 ·obtain⟨a,c,rfl,hc⟩:=hs.mk;subst h0;have e0:decide ((((0:Nat):Int))<2)=true:=rfl;simp only[go_sem,zS,↓reduceIte,Za,Zb,Zc,reduceCtorEq,ae,List.length_nil,e0];exact⟨hv.sl,fun q hq=>hv.aV hq,af.refl _ _⟩
 obtain⟨b,c,L,rfl,h1,h2,hB,h3⟩:=hv.some h0;have h0':0<l.length:=List.length_pos_iff.2 h0;have ai:et l 0=true:=rfl;have NQ:l.length*2<=L.length:=by omega
 have elL:∀j,j<l.length->(L.drop (j*2)).take 2=nE (bC l j):=fun j hj=>by
  have:=yR jF l j l[j] (List.getElem?_eq_getElem hj);rw[<-h3,List.drop_take,List.take_take,Nat.min_eq_left (by omega)]at this;rw[this,dw hj]
 simp only[go_sem,zS,↓reduceIte,Za,Zb,Zc,reduceCtorEq,ae];refine aH (fun hlt=>?_) (fun jt=>?_)
 ·refine⟨?_,fun q hq=>hv.aV hq,af.refl _ _⟩;rw[pZ _ (fun i hi=>by rw[show i=0 by omega];exact ai) (Nat.le_refl _),List.take_length];exact hs
 ·refine aP [3,13,25,4,5,32,44,2] rfl (fun n f H'=>∃i:Nat,1<=i/\i<=l.length/\n=l.length -i/\f 3=.int .i64 i/\H'=H/\∀j<i,et l j=true) (l.length -1) ?_ ?_
  ·exact⟨1,by omega,by omega,rfl,by simp only[go_sem,zS,↓reduceIte,Za,Zb,Zc,reduceCtorEq,ae];rfl,rfl,fun j hj=>by rw[show j=0 by omega];exact ai⟩
  ·rintro n f H1 ⟨i,g1,g2,rfl,hf,rfl,IW⟩;simp only[go_sem,zS,↓reduceIte,Za,Zb,Zc,reduceCtorEq,ae]at hf;simp only[go_sem,zS,↓reduceIte,Za,Zb,Zc,reduceCtorEq,ae,hf];refine aH (fun hlt=>?_) (fun jt=>?_)
   ·have hi:i<l.length:=by omega
    have hsub:IntKind.i64.wrap ((i:Int) -1)=((i -1:Nat):Int):=by rw[IntWalk.i64_in _ (by omega)];omega
    have r1:=ES hB (j:=i) (by omega) (elL i hi);have r2:=ES hB (j:=i -1) (by omega) (elL (i -1) (by omega));simp only[go_sem,zS,↓reduceIte,Za,Zb,Zc,reduceCtorEq,ae,hsub,aj,aB,r1,r2];refine⟨by omega,by omega,⟨by simp[gy],by simp[gy]⟩,?_⟩;rw[IT];have Wj:decide (bC l i=bC l (i -1))=!et l i:=by
     unfold et;have:decide (i=0)=false:=by simp;omega
     rw[this,Bool.false_or];simp
    rw[Wj]
    cases YP:et l i with
    |true=>
     simp(disch:=omega)only[go_sem,zS,↓reduceIte,Za,Zb,Zc,reduceCtorEq,ae,Bool.not_true,IntWalk.i64_in];exact⟨l.length -(i+1),by omega,i+1,by omega,by omega,rfl,by rfl,fun j hj=>by
      by_cases e:j=i
      ·subst e;exact YP
      ·exact IW j (by omega)⟩
    |false=>
     simp only[go_sem,zS,↓reduceIte,Za,Zb,Zc,reduceCtorEq,ae,Bool.not_false];refine⟨by omega,?_⟩;have hci:¬c=i:=by omega
     rw[if_neg hci];refine aP [32,44,3,5] rfl (fun n f H'=>∃(m:Nat) (L2:List Value),i+1<=m/\m<=l.length/\n=l.length -m/\f 5=.int .i64 ((m -i:Nat):Int)/\f 3=.int .i64 ((pN l m).length:Int)/\(pN l m).length+1<=m∧
       Bl H' b L2/\L2.length=L.length/\L2.take ((pN l m).length*2)=(pN l m).flatMap nE/\(∀j,m<=j+1->j<l.length->(L2.drop (j*2)).take 2=nE (bC l j))/\af (fun q=>q=b) H1 H') (l.length -(i+1)) ?_ ?_
     ·have ed:pN l (i+1)=l.take i:=by rw[mE,if_neg (by rw[YP];simp),pZ i IW (by omega)]
      have el:(pN l (i+1)).length=i:=by rw[ed,List.length_take];omega
      refine⟨i+1,L,by omega,by omega,rfl,?_,?_,by omega,hB,rfl,?_,fun j _ hj=>elL j hj,af.refl _ _⟩
      ·simp only[go_sem,zS,↓reduceIte,Za,Zb,Zc,reduceCtorEq,ae,Nat.add_sub_cancel_left];rfl
      ·simp only[go_sem,zS,↓reduceIte,Za,Zb,Zc,reduceCtorEq,ae,el,hf]
      ·rw[el,ed,<-vp jF l i (by omega),<-h3,List.take_take,Nat.min_eq_left (by omega)]
     ·rintro n f2 H2 ⟨m,L2,q1,q2,rfl,q3,q4,q5,q6,q7,q8,q9,q10⟩;generalize ET:(pN l m).length=kd at q4 q5 q8;simp only[go_sem,zS,↓reduceIte,Za,Zb,Zc,reduceCtorEq,ae]at q3 q4;simp only[go_sem,zS,↓reduceIte,Za,Zb,Zc,reduceCtorEq,ae,q3,q4,hf];refine aH (fun hlt=>?_) (fun jt=>?_)
      ·have hm:m<l.length:=by omega
       have hsub:IntKind.i64.wrap (((m -i:Nat):Int) -1)=((m -i -1:Nat):Int):=by rw[IntWalk.i64_in _ (by omega)];omega
       have r1:=ES q6 (j:=m) (by omega) (q9 m (by omega) hm);have r2:=ES q6 (j:=m -1) (by omega) (q9 (m -1) (by omega) (by omega));have e1:i*2+(m -i)*2=m*2:=by omega
       have e2:i*2+(m -i -1)*2=(m -1)*2:=by omega
       simp only[go_sem,zS,↓reduceIte,Za,Zb,Zc,reduceCtorEq,ae,hsub,aj,aB,Nat.zero_add,e1,e2,r1,r2];refine⟨by omega,by omega,⟨by simp[gy],by simp[gy]⟩,?_⟩;have hne:(!decide (bC l m=bC l (m -1)))=et l m:=by
        unfold et;have:decide (m=0)=false:=by simp;omega
        rw[this,Bool.false_or];simp
       rw[IT,hne]
       cases Vb:et l m with
       |true=>
        simp only[go_sem,zS,↓reduceIte,Za,Zb,Zc,reduceCtorEq,ae,r1,iV,eY];have hst:=q6.bK (o:=kd*2) (n:=2) (by omega);have B3:=q6.az (kd*2) (nE (bC l m));have K3:af (fun q=>q=b) H2 (az H2 ⟨b,kd*2,none⟩ (nE (bC l m))):=(af.refl _ _).az _ (.inl rfl);have eS:pN l (m+1)=pN l m++[bC l m]:=by rw[mE,if_pos Vb]
        have eL:(pN l (m+1)).length=kd+1:=by rw[eS,List.length_append,ET];rfl
        refine⟨by omega,by omega,⟨hst,fun x hx=>by simp at hx;rcases hx with rfl|rfl<;>rfl⟩,l.length -(m+1),by omega,m+1,_,by omega,by omega,rfl,?_,?_,by omega,B3,?_,?_,?_,q10.trans K3⟩
        ·rw[IntWalk.i64_in _ (by omega),show m+1 -i=m -i+1 by omega];rfl
        ·rw[IntWalk.i64_in _ (by omega),eL];rfl
        ·rw[j9 (by show kd*2+2<=_;omega),q7]
        ·rw[eL,show(kd+1)*2=kd*2+(nE (bC l m)).length by show _=_+2;omega,F3 (by omega),q8,eS,List.flatMap_append];simp
        ·intro j Wk AT;rw[IV (by show kd*2+2<=_;omega) (by omega)];exact q9 j (by omega) AT
       |false=>
        have eS:pN l (m+1)=pN l m:=by rw[mE,if_neg (by rw[Vb];simp)]
        simp(disch:=omega)only[go_sem,zS,↓reduceIte,Za,Zb,Zc,reduceCtorEq,ae,IntWalk.i64_in,q3,q4];refine⟨l.length -(m+1),by omega,m+1,L2,by omega,by omega,rfl,?_,by rw[eS,ET],by rw[eS];omega,q6,q7,by rw[eS,ET];exact q8,fun j Wk AT=>q9 j (by omega) AT,q10⟩;rw[show m+1 -i=m -i+1 by omega];rfl
      ·have hm:m=l.length:=by omega
       subst hm;have hck:¬c=kd:=by omega
       simp only[go_sem,zS,↓reduceIte,Za,Zb,Zc,reduceCtorEq,ae,if_neg hck,aj,Nat.zero_add,ite_self];have hz:(rep #[Value.int .i64 0,Value.int .i64 0] ((l.length -kd)*2)).size=(l.length -kd)*2:=by simp[rep]
       have hza:bI (rep #[Value.int .i64 0,Value.int .i64 0] ((l.length -kd)*2)):=by
        intro x hx;simp only[rep,Array.toList_map,List.mem_map]at hx;obtain⟨t,_,rfl⟩:=hx;have:t % 2=0\/t % 2=1:=by omega
        show(#[Value.int .i64 0,Value.int .i64 0][t % 2]!).oneCell'=true
        rcases this with e|e<;>rw[e]<;>rfl
       have ho:=q6.jl (kd*2) 0 _ hza (by rw[hz];omega);have B3:=q6.put (kd*2) 0 (rep #[Value.int .i64 0,Value.int .i64 0] ((l.length -kd)*2));have K3:af (fun q=>q=b) H2 (iR H2 (some ⟨b,kd*2,none⟩) 0 (rep #[Value.int .i64 0,Value.int .i64 0] ((l.length -kd)*2))):=(af.refl _ _).put rfl _ _ (.inl rfl);refine⟨by omega,ho,by omega,?_,fun q hq=>?_,?_⟩
       ·have:=bk.bl (k:=2) (enc:=nE) B3 (l:=pN l l.length) (c:=c) ?_ ?_ ?_
        ·rw[ET]at this;exact this
        ·rw[ET,Nat.add_zero,IU (Nat.le_refl _) (by omega)];exact q8
        ·rw[ET,Nat.add_zero,j9 (by rw[Array.length_toList,hz];omega)];omega
        ·omega
       ·exact hq.1
       ·exact q10.trans K3
   ·have:i=l.length:=by omega
    subst this;refine⟨?_,fun q hq=>hv.aV hq,af.refl _ _⟩;rw[pZ _ IW (Nat.le_refl _),List.take_length];exact hs
end Go.Mg
namespace Go.Mg
open Go Go.RowKit
def BI (ι:aC):S:=
 kY [kC 4 (.int .i64 0)] (.seq (kY [kA 6 0,kV 7 (.m (.lenl (.t 6))),kC 8 (.int .i64 0)] (.blk 0 (.loop (kY [kH 9 8 7] (.seq (.ite (.v 9) .skip (.exit 0)) (.seq (.blk 1 (kY [kA 10 8,kB 5 10] (kY [kA 11 1,kA 12 0,kA 13 5,kI 14 1 12 13,kD 15 14,kV 16 (.cm .eql .i64 (.t 11) (.t 15))] (.ite (.v 16) (kY [kA 17 5,kB 4 17] .ret) .skip)))) (.reg [ke 18 8,kB 8 18]))))))) (kY [kC 4 (.int .i64 (-1))] .ret))
def BJ:List RV:=[.t 4]
def vZ (ι:aC):S:=
 kY [kC 2 (.bool false)] (kY [kA 9 0,kU 10 (.nil (.t 9)),kU 11 (.fa 0 (.t 10)),kD 12 11,kc 13 (.pV (ι.t 26) 1 8 #[.int .i64 0] (.t 12) (.t 12)),kB 3 13] (.seq (kY [kA 14 0,kU 15 (.nil (.t 14)),kU 16 (.fa 1 (.t 15)),kV 17 (.ld (.t 16)),kO 18 17,kC 19 (.int .i64 0)] (.blk 0 (.loop (kY [kH 20 19 18] (.seq (.ite (.v 20) .skip (.exit 0)) (.seq (.blk 1 (kY [kK 21 2 17 19,kN 22 2 21,kd 5 (.new (ι.t 194) #[.int .i64 0,.int .i64 0]),kf (.stn 2 (.v 5) (.t 22))] (.reg [kA 23 3,kP 24 2 1 5 1,kD 25 24,kI 26 1 23 25,kD 27 26,kU 28 (.ar .add .i64 (.t 27) (.c (.int .i64 1))),kI 29 1 23 25,kf (.st (.t 29) (.t 28))]))) (.reg [ke 30 19,kB 19 30]))))))) (.seq (.blk 2 (.loop (.seq (kY [kA 31 0,kU 32 (.nil (.t 31)),kU 33 (.fa 4 (.t 32)),kD 34 33,kL 35 34,kA 36 0,kU 37 (.nil (.t 36)),kU 38 (.fa 0 (.t 37)),kD 39 38,kV 40 (.cm .lss .i64 (.t 35) (.t 39))] (.ite (.v 40) .skip (.exit 2))) (.blk 3 (kY [kA 41 3,kc 42 (kg (ι.f 157) [.t 41,.c (.int .i64 0)]),kB 6 42] (.seq (kY [kA 43 6,kV 44 (.cm .lss .i64 (.t 43) (.c (.int .i64 0)))] (.ite (.v 44) (kY [kC 2 (.bool false)] .ret) .skip)) (kY [kA 45 3,kA 46 6,kI 47 1 45 46,kf (.st (.t 47) (.c (.int .i64 (-1))))] (kY [kA 48 0,kA 49 0,kU 50 (.nil (.t 49)),kU 51 (.fa 4 (.t 50)),kD 52 51,kA 53 6,kc 54 (.bF (ι.t 26) 1 1 [.t 53]),kc 55 (.app false (ι.t 26) 1 8 #[.int .i64 0] (.t 52) (.t 54)),kU 56 (.nil (.t 48)),kU 57 (.fa 4 (.t 56)),kf (.st (.t 57) (.t 55))] (kY [kA 58 0,kU 59 (.nil (.t 58)),kU 60 (.fa 1 (.t 59)),kV 61 (.ld (.t 60)),kO 62 61,kC 63 (.int .i64 0)] (.blk 4 (.loop (kY [kH 64 63 62] (.seq (.ite (.v 64) .skip (.exit 4)) (.seq (.blk 5 (kY [kK 65 2 61 63,kN 66 2 65,kd 8 (.new (ι.t 194) #[.int .i64 0,.int .i64 0]),kf (.stn 2 (.v 8) (.t 66))] (kY [kP 67 2 1 8 0,kD 68 67,kA 69 6,kV 70 (.cm .eql .i64 (.t 68) (.t 69))] (.ite (.v 70) (.reg [kA 71 3,kP 72 2 1 8 1,kD 73 72,kI 74 1 71 73,kD 75 74,kU 76 (.ar .sub .i64 (.t 75) (.c (.int .i64 1))),kI 77 1 71 73,kf (.st (.t 77) (.t 76))]) .skip)))) (.reg [ke 78 63,kB 63 78]))))))))))))))) (kY [kC 2 (.bool true)] .ret))))
def v7:List RV:=[.t 2]
def uF (P:Program) (k:FuncId):Prop:=∀(l:List Int) (v:Value) (x:Int) (H:Hp),aM H v (iL l)->l.length<=1000000→
 ak P k #[v,.int .i64 x] H fun r H'=>((r=.int .i64 (-1)/\x∉l)\/∃i:Nat,r=.int .i64 (i:Int)/\i<l.length/\l.getD i 0=x/\∀j<i,l.getD j 0≠x)/\H'=H
variable {P:Program} {ι:aC} {k:FuncId} {n i b:Nat} {f:Nat->Int} {R:Nat->Nat->Bool} {s:List Nat}
theorem NR (hk:an P k (BI ι) BJ 2):uF P k:=by
 intro l v x H hv QX;refine ah hk (args:=[_,_]) (by simp) ?_;unfold BI BJ kA kB kC kD ke kH kI kV kY;simp only[go_sem,zS,↓reduceIte,Za,Zb,Zc,reduceCtorEq,ae,hv.aq,hv.len,aA];refine aP [9,5,16,4,8] rfl (fun n f H'=>∃i:Nat,i<=l.length/\n=l.length -i/\f 8=.int .i64 i/\(∀a<i,l.getD a 0≠x)/\H'=H) l.length
  ⟨0,by omega,by omega,by simp only[go_sem,zS,↓reduceIte,Za,Zb,Zc,reduceCtorEq,ae];rfl,fun a ha=>by omega,rfl⟩ ?_
 rintro n f H1 ⟨i,hi,rfl,hf,hx,rfl⟩;simp only[go_sem,zS,↓reduceIte,Za,Zb,Zc,reduceCtorEq,ae]at hf;simp only[go_sem,zS,↓reduceIte,Za,Zb,Zc,reduceCtorEq,hf];refine aH (fun hlt=>?_) (fun jt=>?_)
 ·have hlt:i<l.length:=by omega
  obtain⟨b,o,c,rfl,hlm,hc⟩:=hv.cells (by intro e;have h:=congrArg List.length e;rw[aA,List.length_nil]at h;omega);rw[aA]at hc hlm;have hci:=hc i hlt;rw[du _ _ hlt]at hci
  by_cases h:x=l.getD i 0
  ·have e:(x==l.getD i 0)=true:=by simpa using h
   simp only[go_sem,zS,↓reduceIte,Za,Zb,Zc,reduceCtorEq,ae,hf,aA,aj,Nat.mul_one,hci,e];exact⟨by omega,.inr ⟨i,rfl,hlt,h.symm,hx⟩⟩
  ·have e:(x==l.getD i 0)=false:=by simpa using h
   simp(disch:=omega)only[go_sem,zS,↓reduceIte,Za,Zb,Zc,reduceCtorEq,ae,hf,aA,aj,Nat.mul_one,hci,e,IntWalk.i64_in];refine⟨by omega,l.length -(i+1),by omega,i+1,by omega,rfl,by simp,fun a ha=>?_⟩
   by_cases e2:a=i
   ·subst e2;exact fun h'=>h h'.symm
   ·exact hx a (by omega)
 ·refine .inl fun h=>?_;obtain⟨a,ha,e⟩:=List.getElem_of_mem h;exact hx a (by omega) (by rw[List.getD_eq_getElem?_getD,List.getElem?_eq_getElem ha];exact e)
def qj (n:Nat) (f:Nat->Int):List Int:=(List.range n).map f
theorem qk (n:Nat) (f:Nat->Int):(qj n f).length=n:=by simp[qj]
theorem v8 (f:Nat->Int) (h:i<n) (d:Int):(qj n f).getD i d=f i:=by simp[qj,List.getD_eq_getElem?_getD,h]
theorem fL {g:Nat->Int} (h:∀i<n,f i=g i):qj n f=qj n g:=List.map_congr_left fun i hi=>h i (List.mem_range.1 hi)
theorem we {j:Nat} {x:Int} (h:j<n):(qj n f).set j x=qj n fun i=>if i=j then x else f i:=by
 refine List.ext_getElem (by simp[qj]) fun i h1 h2=>?_;rw[List.getElem_set];simp only[qj,List.getElem_map,List.getElem_range]
 by_cases e:j=i
 ·subst e;simp
 ·have:¬i=j:=fun h=>e h.symm;simp[e,this]
theorem NS (n:Nat) (x:Int):List.replicate n x=qj n fun _=>x:=by simp[qj,List.map_const']
theorem zn {H:Hp} (h:Bl H b (iL (qj n f))) (hi:i<n):cell H ⟨b,i,none⟩=some (.int .i64 (f i)):=by
 rw[h.cell,du _ _ (by rw[qk];exact hi),v8 _ hi]
theorem uG (n:Nat) (R:Nat->Nat->Bool):(cS n R).length<=n*n:=by
 unfold cS;have:∀m,((List.range m).flatMap (qY n R)).length<=m*n:=fun m=>by
  induction m with
  |zero=>simp
  |succ m ih=>
   rw[List.range_succ,List.flatMap_append,List.length_append,Nat.succ_mul];have:((List.flatMap (qY n R) [m])).length<=n:=by
    simp only[List.flatMap_cons,List.flatMap_nil,List.append_nil,qY,List.length_map];have:=List.length_filter_le (R m) (List.range n);simpa using this
   omega
 exact this n
def iw (L:List NP) (i b:Nat) (q:Nat->Bool):Nat:=(L.take i).countP fun p=>decide (p.2=b)&&q p.1
theorem n9 {L:List NP} (h:i<L.length) (b:Nat) (q:Nat->Bool):iw L (i+1) b q=iw L i b q+if(decide ((bC L i).2=b)&&q (bC L i).1)=true then 1 else 0:=by
 unfold iw;rw[List.take_succ_eq_append_getElem h,List.countP_append,List.countP_cons,List.countP_nil,dw h,Nat.zero_add]
theorem EU (L:List NP) (i b:Nat) (q:Nat->Bool):iw L i b q<=L.length:=by
 unfold iw;refine Nat.le_trans List.countP_le_length ?_;rw[List.length_take];omega
theorem zo (q:Nat->Bool) (hb:b<n):iw (cS n R) (cS n R).length b q=cn n fun a=>R a b&&q a:=by
 unfold iw;rw[List.take_length];exact yW n R b q hb
def wg (n:Nat) (R:Nat->Nat->Bool) (s:List Nat) (b:Nat):Int:=if b∈s then-1 else(cn n fun a=>R a b&&!decide (a∈s):Nat)
theorem rC:wg n R s b=0↔Ez n R s b=true:=by
 unfold wg;rw[mC]
 by_cases h:b∈s
 ·simp[h]
 ·rw[if_neg h]
  constructor
  ·intro e;have e:cn n (fun a=>R a b&&!decide (a∈s))=0:=by omega
   refine⟨h,fun a ha hr=>?_⟩;have:=lJ.1 e a ha;rw[hr,Bool.true_and]at this;simpa using this
  ·rintro⟨_,h2⟩;have:cn n (fun a=>R a b&&!decide (a∈s))=0:=lJ.2 fun a ha=>by
    cases hr:R a b with
    |false=>rfl
    |true=>simp[h2 a ha hr]
   omega
theorem IY (hR:uz n R) (hs:mD n R s) {k:Nat} (hk:yT n R s=some k) (b:Nat) (hb:b<n):
  (if b=k then-1 else wg n R s b) -(cn n fun a=>R a b&&decide (a=k):Nat)=wg n R (s++[k]) b:=by
 obtain⟨h1,h2,_⟩:=jE hk;obtain⟨h3,h4⟩:=mC.1 h2;have e1:cn n (fun a=>R a b&&decide (a=k))=if R k b=true then 1 else 0:=by
  cases hr:R k b with
  |false=>
   rw[if_neg (by simp)];refine lJ.2 fun a ha=>?_
   by_cases e:a=k
   ·subst e;simp[hr]
   ·simp[e]
  |true=>
   rw[if_pos rfl,bH (q:=fun a=>decide (a=k)) fun a ha=>by
    by_cases e:a=k
    ·subst e;simp[hr]
    ·simp[e]]
   exact AP n k h1
 rw[e1];unfold wg
 by_cases e:b=k
 ·subst e;have:R b b=false:=by
   cases hr:R b b with
   |false=>rfl
   |true=>exact absurd (h4 b hb hr) h3
  simp[this]
 ·rw[if_neg e]
  by_cases Vc:b∈s
  ·have:R k b=false:=by
    cases hr:R k b with
    |false=>rfl
    |true=>exact absurd (hs.mem hR Vc hr) h3
   simp[this,Vc]
  ·have hm:b∉s++[k]:=by simp[Vc,e]
   rw[if_neg Vc,if_neg hm];have e2:cn n (fun a=>R a b&&!decide (a∈s++[k]))=cn n fun a=>(R a b&&!decide (a∈s))&&!decide (a=k):=bH fun a ha=>by
    by_cases e:a=k
    ·subst e;simp
    ·simp[e]
   rw[e2]
   cases hr:R k b with
   |false=>
    rw[bH (p:=fun a=>(R a b&&!decide (a∈s))&&!decide (a=k)) (q:=fun a=>R a b&&!decide (a∈s)) fun a ha=>by
     by_cases e:a=k
     ·subst e;simp[hr]
     ·simp[e]]
    simp
   |true=>
    have:=iY (n:=n) (p:=fun a=>R a b&&!decide (a∈s)) h1 (by simp[hr,h3]);simp only[if_true];omega
def iN (s:List Nat):List Value:=iL (s.map fun n:Nat=>(n:Int))
theorem aW (s:List Nat):(iN s).length=s.length:=by simp[iN,iL]
theorem rD (s t:List Nat):iN (s++t)=iN s++iN t:=by simp[iN,iL]
theorem jK (n:Nat) (f:Nat->Int):(iL (qj n f)).length=n:=by rw[aA,qk]
def uH (P:Program) (k:FuncId):Prop:=∀(n:Nat) (R:Nat->Nat->Bool) (b:Nat) (pv av bv:Value) (H:Hp),n<=256->uz n R->Bl H b [.int .i64 (n:Int),pv,av,bv,.slice none 0 0]->bk nE 2 H pv (cS n R)->(∀q,aV pv q->q≠b)→
 ak P k #[.pointer (some ⟨b,0,none⟩)] H fun r H'=>r=.bool (decide ((yg n R).length=n))/\(∃sv,Bl H' b [.int .i64 (n:Int),pv,av,bv,sv]/\bY H' sv (iN (yg n R))/\∀q,ay sv q->H.size<=q)/\af (fun q=>q=b) H H'
theorem I0 (hk:an P k (vZ ι) v7 1) (hi:uF P (ι.f 157)):uH P k:=by
 intro n R b pv av bv H hn hR hB hp oe;refine ah hk (args:=[_]) (by simp) ?_;unfold vZ v7 kA kB kC kD ke kH kI kK kL kN kO kP kU kV kc kd kf kg kY;have Wl:=hB.lt;have hgl:(cS n R).length<=65536:=Nat.le_trans (uG n R) (Nat.mul_le_mul hn hn);have hc0:cell H ⟨b,0,none⟩=some (.int .i64 (n:Int)):=by rw[hB.cell];rfl
 simp only[go_sem,zS,↓reduceIte,Za,Zb,Zc,reduceCtorEq,hc0,aj];refine⟨⟨by omega,by omega,by omega,by unfold maxLen;omega⟩,?_⟩;refine aG fun H1 bl e1 z1 B1 K1=>?_;rw[dg,qR,NS]at B1;have s1:=K1.size;have Wm:=K1.bl hB (by simp);have hc1:cell H1 ⟨b,1,none⟩=some pv:=by rw[Wm.cell];rfl
 simp only[go_sem,zS,↓reduceIte,Za,Zb,Zc,reduceCtorEq,ae,hc1,hp.aq,hp.bX,hp.len];generalize hL:cS n R=L at hp hgl⊢;have hpairs:∀i,i<L.length->(bC L i).1<n/\(bC L i).2<n/\R (bC L i).1 (bC L i).2=true:=fun i hi=>by
  have:bC L i∈cS n R:=by rw[hL,dw hi];exact List.getElem_mem _
  exact im.1 this
 refine aP [20,5,19] rfl (fun m f H'=>∃i:Nat,i<=L.length/\m=L.length -i/\f 19=.int .i64 i/\Bl H' bl (iL (qj n fun c=>(iw L i c fun _=>true:Nat)))/\af (fun q=>q=bl) H1 H') L.length ?_ ?_
 ·exact⟨0,by omega,by omega,by simp only[go_sem,zS,↓reduceIte,Za,Zb,Zc,reduceCtorEq,ae];rfl,B1,af.refl _ _⟩
 rintro m f H2 ⟨i,IM,rfl,hf,B2,K2⟩;have s2:=K2.size;simp only[go_sem,zS,↓reduceIte,Za,Zb,Zc,reduceCtorEq,ae]at hf;simp only[go_sem,zS,↓reduceIte,Za,Zb,Zc,reduceCtorEq,hf];refine aH (fun hlt=>?_) (fun jt=>?_)
 ·have hlt:i<L.length:=by omega
  have Wn:=(hp.ag K1 (by simp)).ag K2 (fun q hq e=>by have:=hp.bE hq;omega);obtain⟨pb,po,pc,rfl,QZ,hld⟩:=Wn.elem jF hlt;obtain⟨q1,q2,q3⟩:=hpairs i hlt;rw[<-dw hlt]at hld;have cP:aR H2 ⟨pb,po+i*2,none⟩ 2=some #[.int .i64 ((bC L i).1:Int),.int .i64 ((bC L i).2:Int)]:=hld;simp only[go_sem,zS,↓reduceIte,Za,Zb,Zc,reduceCtorEq,zF,aj,aB,cP];refine⟨by omega,?_⟩;refine al fun H3 b3 e3 z3 B3 K3=>?_;have s3:=K3.size;have hst:=B3.bK (o:=0) (n:=2) (by simp);have B4:=B3.az 0 [.int .i64 ((bC L i).1:Int),.int .i64 ((bC L i).2:Int)];have K4:af (fun q=>q=b3) H3 (az H3 ⟨b3,0,none⟩ [.int .i64 ((bC L i).1:Int),.int .i64 ((bC L i).2:Int)]):=(af.refl _ _).az _ (.inl rfl);simp only[go_sem,zS,↓reduceIte,Za,Zb,Zc,reduceCtorEq,ae,zF,hst];generalize az H3 ⟨b3,0,none⟩ [.int .i64 ((bC L i).1:Int),.int .i64 ((bC L i).2:Int)]=H4 at B4 K4⊢;have s4:=K4.size;have hc4:cell H4 ⟨b3,1,none⟩=some (.int .i64 ((bC L i).2:Int)):=by rw[B4.cell];rfl
  have zd:=K4.bl (K3.bl B2 (by simp)) (by have:=B2.lt;omega);have hcl:=zn zd q2;have hle:=EU L i (bC L i).2 fun _=>true;have abd:=zd.br (o:=(bC L i).2) (by rw[jK];exact q2);simp(disch:=omega)only[go_sem,zS,↓reduceIte,Za,Zb,Zc,reduceCtorEq,ae,hf,hc4,aj,Nat.mul_one,Nat.zero_add,hcl,abd,IntWalk.i64_in];refine⟨fun x hx=>by simp at hx;rcases hx with rfl|rfl<;>rfl,by omega,by omega,by omega,L.length -(i+1),by omega,i+1,by omega,by omega,by rfl,?_,?_⟩
  ·have B5:=zd.ax (bC L i).2 (.int .i64 ((iw L i (bC L i).2 (fun _=>true):Int)+1));rw[iW,we q2]at B5;rw[show(qj n fun c=>((iw L (i+1) c fun _=>true:Nat):Int))=qj n fun c=>if c=(bC L i).2 then(iw L i (bC L i).2 (fun _=>true):Int)+1 else(iw L i c (fun _=>true):Int)from fL fun c hc=>by
    rw[n9 hlt]
    by_cases e:c=(bC L i).2
    ·subst e;simp
    ·have:¬(bC L i).2=c:=fun h=>e h.symm;simp[e,this]]
   exact B5
  ·exact((K2.trans (K3.mono fun _ _ h=>h.elim)).trans' K4 (fun j hj h=>by omega)).trans ((af.refl _ _).ax _ (.inl rfl))
 ·have:i=L.length:=by omega
  subst this;have e0:(qj n fun c=>((iw L L.length c fun _=>true:Nat):Int))=qj n (wg n R []):=fL fun c hc=>by
   rw[<-hL,zo _ hc];unfold wg;rw[if_neg (by simp)]
   congr 2
  rw[e0]at B2;have NT:=K2.bl Wm (by omega);have ac6:=hgl;refine aP [40,6,44,2,61,62,63,64,8,70] rfl (fun m f H'=>∃(s:List Nat) (sv:Value),mD n R s/\m=n -s.length/\Bl H' b [.int .i64 (n:Int),pv,av,bv,sv]/\bY H' sv (iN s)/\(∀q,ay sv q->H.size<=q/\q≠bl)∧
    Bl H' bl (iL (qj n (wg n R s)))/\af (fun q=>q=b\/H.size<=q) H1 H') n ?_ ?_
  ·exact⟨[],_,mD.nil n R,rfl,NT,bY.nil _,fun q h=>h.elim,B2,K2.mono fun q _ h=>.inr (by omega)⟩
  rintro m g H3 ⟨s,sv,hs,rfl,B3,O3,own3,C3,K3⟩;have s3:=K3.size;have hsl:=il hs.nd hs.lt;have hsn:s.length<=n:=by have:=fA n fun k=>decide (k∈s);omega
  have c0:cell H3 ⟨b,0,none⟩=some (.int .i64 (n:Int)):=by rw[B3.cell];rfl
  have c4:cell H3 ⟨b,4,none⟩=some sv:=by rw[B3.cell];rfl
  simp only[go_sem,zS,↓reduceIte,Za,Zb,Zc,reduceCtorEq,ae,c0,c4,O3.sl.aq,O3.sl.len,aW];refine aH (fun hlt=>?_) (fun jt=>?_)
  ·have hlt:s.length<n:=by omega
   have hC:aM H3 (.slice (some ⟨bl,0,none⟩) n n) (iL (qj n (wg n R s))):=by
    have:=aM.bl C3 0 n n (Nat.le_refl _) (by rw[jK];omega)
    rwa [List.drop_zero,List.take_of_length_le (by rw[jK];exact Nat.le_refl _)]at this
   refine(hi _ _ 0 H3 hC (by rw[qk];omega)).mono ?_;rintro r H4 ⟨⟨rfl,hno⟩|⟨k,rfl,FC,hk2,hk3⟩,rfl⟩
   ·have e:decide ((-1:Int)<0)=true:=rfl;simp only[go_sem,zS,↓reduceIte,Za,Zb,Zc,reduceCtorEq,ae,e];have abe:yT n R s=none:=by
     cases hx:yT n R s with
     |none=>rfl
     |some k=>
      obtain⟨h1,h2,_⟩:=jE hx;exact absurd (List.mem_map.2 ⟨k,List.mem_range.2 h1,rC.2 h2⟩) hno
    have BK:=hs.eq hR (.inr abe);refine⟨?_,⟨sv,B3,by rw[<-BK];exact O3,fun q hq=>(own3 q hq).1⟩,?_⟩
    ·rw[<-BK,decide_eq_false (by omega)]
    ·exact(K1.any (W:=fun q=>q=b)).trans' K3 (fun i hi h=>by omega)
   ·have rE:k<n:=by rw[qk]at FC;exact FC
    rw[v8 _ rE]at hk2;have hk:yT n R s=some k:=Sy rE (rC.1 hk2) fun j hj=>by
     have:=hk3 j hj;rw[v8 _ (by omega)]at this
     cases hr:Ez n R s j with
     |false=>rfl
     |true=>exact absurd (rC.2 hr) this
    have e:decide ((k:Int)<0)=false:=by rw[decide_eq_false_iff_not];omega
    have hst:=C3.br (o:=k) (by rw[jK];exact rE);have C5:=C3.ax k (.int .i64 (-1));rw[iW,we rE]at C5;have M5:af (fun q=>q=bl) H4 (ax H4 ⟨bl,k,none⟩ (.int .i64 (-1))):=(af.refl _ _).ax _ (.inl rfl);rw[ae];simp only[go_sem,zS,↓reduceIte,Za,Zb,Zc,reduceCtorEq,e,aj,Nat.mul_one,Nat.zero_add,hst];refine⟨by omega,?_⟩;rw[ae];generalize ax H4 ⟨bl,k,none⟩ (.int .i64 (-1))=H5 at C5 M5⊢;have s5:=M5.size;have B5:=M5.bl B3 (by omega);have O5:=O3.ag M5 (fun q hq=>(own3 q hq).2);have c5:cell H5 ⟨b,4,none⟩=some sv:=by rw[B5.cell];rfl
    simp only[go_sem,zS,↓reduceIte,Za,Zb,Zc,reduceCtorEq,zF,c5];refine aG fun H6 b6 e6 z6 B6 K6=>?_;have s6:=K6.size;have Q0:Bl H6 b6 (iN [k]):=B6;simp only[go_sem,zS,↓reduceIte,Za,Zb,Zc,reduceCtorEq,ae];have hs6:aM H6 (.slice (some ⟨b6,0,none⟩) 1 1) (iN [k]):=aM.bl Q0 0 1 1 (by omega) (by simp[aW]);refine lI (l:=iN s) (m:=iN [k]) (O5.ag K6 (by simp)) hs6 (gH _) rfl (by unfold maxLen;rw[aW,aW];simp;omega) (by rw[aW,aW];simp;omega) fun v' H7 O7 M7 abf=>?_;have s7:=M7.size;rw[<-rD]at O7;have own8:∀q,ay v' q->H.size<=q/\q≠bl:=fun q hq=>by
     rcases abf q hq with h|h
     ·exact own3 q h
     ·have:=C5.lt;exact⟨by omega,by omega⟩
    have nob:∀q,ay sv q->q≠b:=fun q hq=>by have:=(own3 q hq).1;omega
    have B7:=M7.bl (K6.bl B5 (by simp)) (fun h=>nob _ h rfl);have C7:=M7.bl (K6.bl C5 (by simp)) (fun h=>(own3 _ h).2 rfl);have abg:=B7.br (o:=4) (by simp);obtain⟨va,vn,vc,rfl⟩:=O7.shape;have B8:=B7.ax 4 (.slice va vn vc);have M8:af (fun q=>q=b) H7 (ax H7 ⟨b,4,none⟩ (.slice va vn vc)):=(af.refl _ _).ax _ (.inl rfl);have K78:af (fun q=>q=b\/H.size<=q) H1 H7:=((K3.trans (M5.mono fun q _ h=>.inr (by omega))).trans (K6.mono fun _ _ h=>h.elim)).trans (M7.mono fun q _ h=>.inr (own3 q h).1);simp only[go_sem,zS,↓reduceIte,Za,Zb,Zc,reduceCtorEq,ae,abg];generalize ax H7 ⟨b,4,none⟩ (.slice va vn vc)=H8 at B8 M8⊢;have s8:=M8.size;have Y0:Bl H8 b [.int .i64 (n:Int),pv,av,bv,.slice va vn vc]:=B8;have O8:=O7.ag M8 (fun q hq e=>by have:=(own8 q hq).1;omega);have C8:=M8.bl C7 (by omega);have c1:cell H8 ⟨b,1,none⟩=some pv:=by rw[Y0.cell];rfl
    have K8:=K78.trans (M8.mono fun q _ h=>.inl h);simp only[go_sem,zS,↓reduceIte,Za,Zb,Zc,reduceCtorEq,ae,c1,hp.aq,hp.bX,hp.len];refine aP [64,8,70,63] rfl (fun m f H'=>∃i:Nat,i<=L.length/\m=L.length -i/\f 63=.int .i64 i/\Bl H' bl (iL (qj n fun c=>(if c=k then-1 else wg n R s c) -(iw L i c fun a=>decide (a=k):Nat)))/\af (fun q=>q=bl) H8 H') L.length ?_ ?_
    ·refine⟨0,by omega,by omega,by simp only[go_sem,zS,↓reduceIte,Za,Zb,Zc,reduceCtorEq,ae];rfl,?_,af.refl _ _⟩;rw[fL (g:=fun i=>if i=k then-1 else wg n R s i) fun c hc=>by simp[iw]];exact C8
    rintro m f H9 ⟨i,IM,rfl,hf,C9,K9⟩;have s9:=K9.size;simp only[go_sem,zS,↓reduceIte,Za,Zb,Zc,reduceCtorEq,ae]at hf;simp only[go_sem,zS,↓reduceIte,Za,Zb,Zc,reduceCtorEq,hf];refine aH (fun hlt=>?_) (fun jt=>?_)
    ·have hlt:i<L.length:=by omega
     have hp9:bk nE 2 H9 pv L:=hp.ag (((K1.any (W:=fun q=>q=b\/H.size<=q)).trans K8).trans (K9.mono fun q _ h=>.inr (by omega))) (fun q hq h=>by
      have:=hp.bE hq;rcases h with h|h
      ·exact oe q hq h
      ·omega)
     obtain⟨pb,po,pc,rfl,QZ,hld⟩:=hp9.elem jF hlt;obtain⟨q1,q2,q3⟩:=hpairs i hlt;rw[<-dw hlt]at hld;have cP:aR H9 ⟨pb,po+i*2,none⟩ 2=some #[.int .i64 ((bC L i).1:Int),.int .i64 ((bC L i).2:Int)]:=hld;simp only[go_sem,zS,↓reduceIte,Za,Zb,Zc,reduceCtorEq,zF,aj,aB,cP];refine⟨by omega,?_⟩;refine al fun HA bA eA zA BA KA=>?_;have sA:=KA.size;have abh:=BA.bK (o:=0) (n:=2) (by simp);have BB:=BA.az 0 [.int .i64 ((bC L i).1:Int),.int .i64 ((bC L i).2:Int)];have KB:af (fun q=>q=bA) HA (az HA ⟨bA,0,none⟩ [.int .i64 ((bC L i).1:Int),.int .i64 ((bC L i).2:Int)]):=(af.refl _ _).az _ (.inl rfl);simp only[go_sem,zS,↓reduceIte,Za,Zb,Zc,reduceCtorEq,zF,abh];refine⟨fun x hx=>by simp at hx;rcases hx with rfl|rfl<;>rfl,?_⟩;rw[ae];generalize az HA ⟨bA,0,none⟩ [.int .i64 ((bC L i).1:Int),.int .i64 ((bC L i).2:Int)]=HB at BB KB⊢;have sB:=KB.size;have Tb:cell HB ⟨bA,0,none⟩=some (.int .i64 ((bC L i).1:Int)):=by rw[BB.cell];rfl
     have Td:cell HB ⟨bA,1,none⟩=some (.int .i64 ((bC L i).2:Int)):=by rw[BB.cell];rfl
     have Y3:=KB.bl (KA.bl C9 (by simp)) (by have:=C9.lt;omega);have og:af (fun q=>q=bl) H8 HB:=(K9.trans (KA.mono fun _ _ h=>h.elim)).trans' KB (fun j hj h=>by omega);have hcl:=zn Y3 q2;have abi:=Y3.br (o:=(bC L i).2) (by rw[jK];exact q2);have hc1:=EU L i (bC L i).2 fun a=>decide (a=k);have hc2:-1<=(if(bC L i).2=k then-1 else wg n R s (bC L i).2)/\(if(bC L i).2=k then-1 else wg n R s (bC L i).2)<=256:=by
      have h2:=fA n fun a=>R a (bC L i).2&&!decide (a∈s);unfold wg
      split
      ·omega
      ·split<;>omega
     generalize hX:(if(bC L i).2=k then-1 else wg n R s (bC L i).2)=X at hcl hc2;simp only[go_sem,zS,↓reduceIte,Za,Zb,Zc,reduceCtorEq,ae,hf,Tb]
     by_cases e1:(bC L i).1=k
     ·have eb:(((bC L i).1:Int)==(k:Int))=true:=by rw[beq_iff_eq,e1]
      simp(disch:=omega)only[go_sem,zS,↓reduceIte,Za,Zb,Zc,reduceCtorEq,ae,eb,hf,Td,aj,Nat.mul_one,Nat.zero_add,hcl,abi,IntWalk.i64_in];refine⟨by omega,by omega,by omega,by omega,L.length -(i+1),by omega,i+1,by omega,rfl,by rfl,?_,og.trans ((af.refl _ _).ax _ (.inl rfl))⟩;have C11:=Y3.ax (bC L i).2 (.int .i64 (X -(iw L i (bC L i).2 fun a=>decide (a=k)) -1));rw[iW,we q2]at C11;rw[fL (g:=fun c=>if c=(bC L i).2 then(X -(iw L i (bC L i).2 fun a=>decide (a=k)) -1)else(if c=k then-1 else wg n R s c) -((iw L i c fun a=>decide (a=k):Nat):Int)) fun c hc=>?_]
      ·exact C11
      ·rw[n9 hlt]
       by_cases e:c=(bC L i).2
       ·subst e;rw[hX];simp[e1];omega
       ·have:¬(bC L i).2=c:=fun h=>e h.symm;simp[e,this]
     ·have eb:(((bC L i).1:Int)==(k:Int))=false:=by rw[beq_eq_false_iff_ne];omega
      simp(disch:=omega)only[go_sem,zS,↓reduceIte,Za,Zb,Zc,reduceCtorEq,ae,eb,hf,IntWalk.i64_in];refine⟨by omega,L.length -(i+1),by omega,i+1,by omega,rfl,by rfl,?_,og⟩;rw[fL (g:=fun c=>(if c=k then-1 else wg n R s c) -((iw L i c fun a=>decide (a=k):Nat):Int)) fun c hc=>?_]
      ·exact Y3
      ·rw[n9 hlt];simp[e1]
    ·have:i=L.length:=by omega
     subst this;have eL:(qj n fun c=>(if c=k then-1 else wg n R s c) -((iw L L.length c fun a=>decide (a=k):Nat):Int))=qj n (wg n R (s++[k])):=fL fun c hc=>by
      rw[<-hL,zo _ hc,IY hR hs hk c hc]
     rw[eL]at C9;have B9:=K9.bl Y0 (by omega);refine⟨n -(s++[k]).length,by simp;omega,s++[k],_,hs.snoc hk,rfl,B9,O8.ag K9 (fun q hq=>(own8 q hq).2),own8,C9,K8.trans (K9.mono fun q _ h=>.inr (by omega))⟩
  ·have BK:=hs.eq hR (.inl (by omega));refine⟨?_,⟨sv,B3,by rw[<-BK];exact O3,fun q hq=>(own3 q hq).1⟩,?_⟩
   ·rw[<-BK,decide_eq_true (by omega)]
   ·exact(K1.any (W:=fun q=>q=b)).trans' K3 (fun i hi h=>by omega)
end Go.Mg
namespace Go.Mg
open Go Go.RowKit
def oh (ι:aC):S:=
 kY [kR 1 (ι.t 196) 0] (.seq (.dr (kW 10 (.ld (.v 1)) (kW 11 (.ld (.v 1)) (kW 12 (.ld (.v 1)) (kW 13 (.nil (.t 12)) (kW 14 (.fa 0 (.t 13)) (kW 15 (.ld (.t 14)) (kW 17 (.ld (.v 1)) (kW 18 (.nil (.t 17)) (kW 19 (.fa 0 (.t 18)) (kW 20 (.ld (.t 19)) (ka 16 (.pV (ι.t 128) 1 24 #[kZ] (.t 15) (.t 15)) (kW 22 (.nil (.t 10)) (kW 23 (.fa 2 (.t 22)) (ka 21 (.pV (ι.t 128) 1 24 #[kZ] (.t 20) (.t 20)) (kb (.st (.t 23) (.t 16)) (kW 24 (.nil (.t 11)) (kW 25 (.fa 3 (.t 24)) (kb (.st (.t 25) (.t 21)) .done .wnil))) .wnil) (kb (.st (.t 23) (.t 16)) (ka 21 (.pV (ι.t 128) 1 24 #[kZ] (.t 20) (.t 20)) (kW 24 (.nil (.t 11)) (kW 25 (.fa 3 (.t 24)) (kb (.st (.t 25) (.t 21)) .done .wnil))) .wnil) .wnil)))) (ka 21 (.pV (ι.t 128) 1 24 #[kZ] (.t 20) (.t 20)) (ka 16 (.pV (ι.t 128) 1 24 #[kZ] (.t 15) (.t 15)) (kW 22 (.nil (.t 10)) (kW 23 (.fa 2 (.t 22)) (kb (.st (.t 23) (.t 16)) (kW 24 (.nil (.t 11)) (kW 25 (.fa 3 (.t 24)) (kb (.st (.t 25) (.t 21)) .done .wnil))) .wnil))) .wnil) .wnil))))))))))))) (kY [kU 26 (.ld (.v 1)),kU 27 (.nil (.t 26)),kU 28 (.fa 0 (.t 27)),kD 29 28,kc 30 (.pV (ι.t 138) 1 24 #[kZ] (.t 29) (.t 29)),kB 2 30] (.seq (kY [kU 31 (.ld (.v 1)),kU 32 (.nil (.t 31)),kU 33 (.fa 1 (.t 32)),kV 34 (.ld (.t 33)),kO 35 34,kC 36 (.int .i64 0)] (.blk 0 (.loop (kY [kH 37 36 35] (.seq (.ite (.v 37) .skip (.exit 0)) (.seq (.blk 1 (kY [kK 38 2 34 36,kN 39 2 38,kd 4 (.new (ι.t 194) #[.int .i64 0,.int .i64 0]),kf (.stn 2 (.v 4) (.t 39))] (.dr (kW 40 (.mv (.v 2)) (kW 41 (.ia 2 1 (.v 4) (.c (.int .i64 1))) (kW 42 (.ld (.t 41)) (kW 43 (.mv (.v 2)) (kW 44 (.ia 2 1 (.v 4) (.c (.int .i64 1))) (kW 45 (.ld (.t 44)) (kW 46 (.is 1 (.t 43) (.t 45)) (kW 48 (.ia 2 1 (.v 4) (.c (.int .i64 0))) (kW 49 (.ld (.t 48)) (ka 47 (.rd (.ld (.t 46))) (ka 50 (.bF (ι.t 26) 1 1 [.t 49]) (ka 51 (.app false (ι.t 26) 1 8 #[.int .i64 0] (.t 47) (.t 50)) (kW 52 (.is 1 (.t 40) (.t 42)) (kb (.st (.t 52) (.t 51)) .done .wnil)) .wnil) .wnil) (ka 50 (.bF (ι.t 26) 1 1 [.t 49]) (ka 47 (.rd (.ld (.t 46))) (ka 51 (.app false (ι.t 26) 1 8 #[.int .i64 0] (.t 47) (.t 50)) (kW 52 (.is 1 (.t 40) (.t 42)) (kb (.st (.t 52) (.t 51)) .done .wnil)) .wnil) .wnil) .wnil)))))))))))))) (.reg [ke 53 36,kB 36 53]))))))) (kY [kU 54 (.ld (.v 1)),kU 55 (.nil (.t 54)),kU 56 (.fa 4 (.t 55)),kV 57 (.ld (.t 56)),kO 58 57,kC 59 (.int .i64 0)] (.blk 2 (.loop (kY [kH 60 59 58] (.seq (.ite (.v 60) .skip (.exit 2)) (.seq (.blk 3 (kY [kK 61 1 57 59,kD 62 61,kd 6 (.new (ι.t 26) #[.int .i64 0]),kf (.st (.v 6) (.t 62))] (.seq (kY [kA 63 2,kU 64 (.ld (.v 6)),kI 65 1 63 64,kV 66 (.ld (.t 65)),kO 67 66,kC 68 (.int .i64 0)] (.blk 4 (.loop (kY [kH 69 68 67] (.seq (.ite (.v 69) .skip (.exit 4)) (.seq (.blk 5 (kY [kK 70 1 66 68,kD 71 70,kB 8 71] (.dr (kW 72 (.ld (.v 1)) (kW 73 (.nil (.t 72)) (kW 74 (.fa 2 (.t 73)) (kW 75 (.ld (.t 74)) (kW 76 (.ld (.v 6)) (kW 77 (.ld (.v 1)) (kW 78 (.nil (.t 77)) (kW 79 (.fa 2 (.t 78)) (kW 80 (.ld (.t 79)) (kW 81 (.ld (.v 6)) (kW 82 (.is 1 (.t 80) (.t 81)) (kW 84 (.ld (.v 1)) (kW 85 (.nil (.t 84)) (kW 86 (.fa 2 (.t 85)) (kW 87 (.ld (.t 86)) (kW 88 (.mv (.v 8)) (kW 89 (.is 1 (.t 87) (.t 88)) (kW 92 (.mv (.v 8)) (ka 83 (.rd (.m (.ldn 1 (.t 82)))) (ka 90 (.rd (.m (.ldn 1 (.t 89)))) (ka 91 (kg (ι.f 132) [.t 83,.t 90]) (ka 93 (kg (ι.f 131) [.t 91,.t 92]) (kW 94 (.is 1 (.t 75) (.t 76)) (kb (.stn 1 (.t 94) (.t 93)) .done .wnil)) .wnil) .wnil) .wnil) (ka 90 (.rd (.m (.ldn 1 (.t 89)))) (ka 83 (.rd (.m (.ldn 1 (.t 82)))) (ka 91 (kg (ι.f 132) [.t 83,.t 90]) (ka 93 (kg (ι.f 131) [.t 91,.t 92]) (kW 94 (.is 1 (.t 75) (.t 76)) (kb (.stn 1 (.t 94) (.t 93)) .done .wnil)) .wnil) .wnil) .wnil) .wnil))))))))))))))))))))))) (.reg [ke 95 68,kB 68 95]))))))) (kY [kU 96 (.ld (.v 1)),kU 97 (.nil (.t 96)),kU 98 (.fa 2 (.t 97)),kD 99 98,kU 100 (.ld (.v 6)),kI 101 1 99 100,kN 102 1 101,kd 103 (kg (ι.f 137) [.t 102])] (.blk 6 (.rf 121 (.v 103) 104 9 (.blk 7 (.dr (kW 105 (.ld (.v 1)) (kW 106 (.nil (.t 105)) (kW 107 (.fa 3 (.t 106)) (kW 108 (.ld (.t 107)) (kW 109 (.mv (.v 9)) (kW 110 (.ld (.v 1)) (kW 111 (.nil (.t 110)) (kW 112 (.fa 3 (.t 111)) (kW 113 (.ld (.t 112)) (kW 114 (.mv (.v 9)) (kW 115 (.is 1 (.t 113) (.t 114)) (kW 117 (.ld (.v 6)) (ka 116 (.rd (.m (.ldn 1 (.t 115)))) (ka 118 (kg (ι.f 131) [.t 116,.t 117]) (kW 119 (.is 1 (.t 108) (.t 109)) (kb (.stn 1 (.t 119) (.t 118)) .done .wnil)) .wnil) .wnil))))))))))))))))))))) (.reg [ke 120 59,kB 59 120]))))))))))
def oj:List RV:=[]
structure lZ (H:Hp) (ab n:Nat) (ps:Nat->Nat->Bool) (vs:List Value) (B:Nat):Prop where
 bl:Bl H ab vs
 len:vs.length=n
 at_:∀i,i<n->aQ H (.agg #[vs.getD i undef]) (ps i)
 ge:∀i,i<n->∀q,aV (vs.getD i undef) q->B<=q
variable {H H':Hp} {ab n B i db a:Nat} {ps R:Nat->Nat->Bool} {vs:List Value} {W:Nat->Prop} {v:Value} {ls:Nat->List Nat}
theorem lZ.ag (h:lZ H ab n ps vs B) (hk:af W H H') (h1:¬W ab) (h2:∀q,B<=q->q<H.size->¬W q):lZ H' ab n ps vs B:=
 ⟨hk.bl h.bl h1,h.len,fun i hi=>(h.at_ i hi).ag hk fun q hq=>h2 q (h.ge i hi q hq) ((h.at_ i hi).bE hq),h.ge⟩
theorem aM.isCells {l:List Value} (h:aM H v l) {q:Nat} (hq:aV v q):∃C T z,H[q]?=some (.cells C T z):=by
 rcases h with⟨a,c,rfl,_⟩|⟨b,o,c,_,rfl,h0,C,T,z,h1,h2,h3⟩
 ·cases a<;>simp[Mg.aV]at hq
 ·obtain⟨rfl,_⟩:=hq;exact⟨C,T,z,h1⟩
theorem lZ.Q1 {ms:List Nat} (h:lZ H ab n ps vs B) (hk:af (fun q=>q∈ms) H H') (hm:∀q∈ms,H[q]?=some (.deferred (some []))):lZ H' ab n ps vs B:=by
 refine⟨hk.bl h.bl fun hq=>?_,h.len,fun i hi=>(h.at_ i hi).ag hk fun q hq qJ=>?_,h.ge⟩
 ·obtain⟨T,hb⟩:=h.bl;rw[hm _ hq]at hb;cases hb
 ·obtain⟨v,W,e,hV⟩:=h.at_ i hi
  cases e
  obtain⟨C,T,z,hb⟩:=hV.sl.isCells hq;rw[hm _ qJ]at hb;cases hb
theorem lZ.congr {ZU:Nat->Nat->Bool} (h:lZ H ab n ps vs B) (e:∀i<n,∀x,ps i x=ZU i x):lZ H ab n ZU vs B:=
 ⟨h.bl,h.len,fun i hi=>(h.at_ i hi).congr (e i hi),h.ge⟩
theorem lZ.ld (h:lZ H ab n ps vs B) (hi:i<n):aR H ⟨ab,i,none⟩ 1=some #[vs.getD i undef]:=by
 rw[h.bl.aR (by rw[h.len];omega)];have hl:i<vs.length:=by rw[h.len];exact hi
 have e:vs.getD i undef=vs[i]:=by simp[List.getD_eq_getElem?_getD,hl]
 rw[e,List.drop_eq_getElem_cons hl];rfl
theorem lZ.ok (h:lZ H ab n ps vs B) (hi:i<n):bK H ⟨ab,i,none⟩ 1:=h.bl.bK (by rw[h.len];omega)
theorem lZ.st (h:lZ H ab n ps vs B) (hi:i<n) {p:Nat->Bool} (hv:aQ H (.agg #[v]) p) (hb:∀q,aV v q->B<=q) (hab:ab<B):
  lZ (az H ⟨ab,i,none⟩ [v]) ab n (fun c=>if c=i then p else ps c) (vs.set i v) B:=by
 have hl:i<vs.length:=by rw[h.len];exact hi
 have K:af (fun q=>q=ab) H (az H ⟨ab,i,none⟩ [v]):=(af.refl _ _).az _ (.inl rfl);have e:nJ vs i [v]=vs.set i v:=by
  unfold nJ;rw[List.set_eq_take_append_cons_drop,if_pos hl];simp
 refine⟨by rw[<-e];exact h.bl.az i [v],by simp[h.len],fun c hc=>?_,fun c hc q hq=>?_⟩
 ·by_cases ec:c=i
  ·subst ec;simp only[if_true];rw[List.getD_eq_getElem?_getD,List.getElem?_set_self hl];exact hv.ag K fun q hq e=>by have:=hb q hq;omega
  ·simp only[if_neg ec];rw[List.getD_eq_getElem?_getD,List.getElem?_set_ne (fun e=>ec e.symm),<-List.getD_eq_getElem?_getD];exact(h.at_ c hc).ag K fun q hq e=>by have:=h.ge c hc q hq;omega
 ·by_cases ec:c=i
  ·subst ec;rw[List.getD_eq_getElem?_getD,List.getElem?_set_self hl]at hq;exact hb q hq
  ·rw[List.getD_eq_getElem?_getD,List.getElem?_set_ne (fun e=>ec e.symm),<-List.getD_eq_getElem?_getD]at hq;exact h.ge c hc q hq
theorem lZ.new (h:Bl H ab (List.replicate n (.slice none 0 0))):lZ H ab n (fun _ _=>false) (List.replicate n (.slice none 0 0)) B:=by
 refine⟨h,by simp,fun i hi=>?_,fun i hi q hq=>?_⟩
 ·rw[List.getD_eq_getElem?_getD,List.getElem?_replicate,if_pos hi];exact aQ.empty H none 0
 ·rw[List.getD_eq_getElem?_getD,List.getElem?_replicate,if_pos hi]at hq;exact hq.elim
structure BL (H:Hp) (db n:Nat) (ls:Nat->List Nat) (vs:List Value) (B:Nat):Prop where
 bl:Bl H db vs
 len:vs.length=n
 at_:∀i,i<n->bY H (vs.getD i undef) (iN (ls i))
 ge:∀i,i<n->∀q,ay (vs.getD i undef) q->B<=q
 dj:∀i j,i<n->j<n->i≠j->∀q,ay (vs.getD i undef) q->¬ay (vs.getD j undef) q
theorem BL.ag (h:BL H db n ls vs B) (hk:af W H H') (h1:¬W db) (h2:∀q,B<=q->q<H.size->¬W q):BL H' db n ls vs B:=
 ⟨hk.bl h.bl h1,h.len,fun i hi=>(h.at_ i hi).ag hk fun q hq=>h2 q (h.ge i hi q hq) ((h.at_ i hi).bE hq),h.ge,h.dj⟩
theorem BL.cell (h:BL H db n ls vs B) (hi:i<n):Mg.cell H ⟨db,i,none⟩=some (vs.getD i undef):=by
 have hl:i<vs.length:=by rw[h.len];exact hi
 rw[h.bl.cell];simp[List.getD_eq_getElem?_getD,hl]
theorem BL.new (h:Bl H db (List.replicate n (.slice none 0 0))):BL H db n (fun _=>[]) (List.replicate n (.slice none 0 0)) B:=by
 have e:∀i,i<n->(List.replicate n (Value.slice none 0 0)).getD i undef=.slice none 0 0:=fun i hi=>by rw[List.getD_eq_getElem?_getD,List.getElem?_replicate,if_pos hi];rfl
 refine⟨h,by simp,fun i hi=>?_,fun i hi q hq=>?_,fun i j hi hj hij q hq=>?_⟩
 ·rw[e i hi];exact bY.nil _
 ·rw[e i hi]at hq;exact hq.elim
 ·rw[e i hi]at hq;exact hq.elim
theorem BL.app {H1:Hp} (h:BL H db n ls vs B) (hi:i<n) (hO:bY H1 v (iN (ls i++[a]))) (hK:af (ay (vs.getD i undef)) H H1) (hv:∀q,ay v q->ay (vs.getD i undef) q\/H.size<=q) (hdb:db<B) (hB:B<=H.size):
  BL (ax H1 ⟨db,i,none⟩ v) db n (fun c=>if c=i then ls i++[a]else ls c) (vs.set i v) B:=by
 have hl:i<vs.length:=by rw[h.len];exact hi
 have hdbi:∀c,c<n->¬ay (vs.getD c undef) db:=fun c hc e=>by have:=h.ge c hc db e;omega
 have B1:=hK.bl h.bl (hdbi i hi);have K:af (fun q=>q=db) H1 (ax H1 ⟨db,i,none⟩ v):=(af.refl _ _).ax _ (.inl rfl);have e1:∀c,c≠i->(vs.set i v).getD c undef=vs.getD c undef:=fun c hc=>by
  rw[List.getD_eq_getElem?_getD,List.getElem?_set_ne (fun e=>hc e.symm),<-List.getD_eq_getElem?_getD]
 have e2:(vs.set i v).getD i undef=v:=by rw[List.getD_eq_getElem?_getD,List.getElem?_set_self hl];rfl
 have vge:∀q,ay v q->B<=q:=fun q hq=>by rcases hv q hq with h'|h';exact h.ge i hi q h';omega
 have vdj:∀c,c<n->c≠i->∀q,ay v q->¬ay (vs.getD c undef) q:=fun c hc hci q hq qJ=>by
  rcases hv q hq with h'|h'
  ·exact h.dj i c hi hc (fun e=>hci e.symm) q h' qJ
  ·have:=(h.at_ c hc).bE qJ;omega
 refine⟨B1.ax i v,by simp[h.len],fun c hc=>?_,fun c hc q hq=>?_,fun c d hc hd hcd q hq qJ=>?_⟩
 ·by_cases ec:c=i
  ·subst ec;rw[e2,if_pos rfl];exact hO.ag K fun q hq e=>by have:=vge q hq;omega
  ·rw[e1 c ec,if_neg ec];exact((h.at_ c hc).ag hK fun q hq qJ=>h.dj c i hc hi ec q hq qJ).ag K fun q hq e=>by have:=h.ge c hc q hq;omega
 ·by_cases ec:c=i
  ·subst ec;rw[e2]at hq;exact vge q hq
  ·rw[e1 c ec]at hq;exact h.ge c hc q hq
 ·by_cases ec:c=i
  ·subst ec;rw[e2]at hq;rw[e1 d (fun e=>hcd e.symm)]at qJ;exact vdj d hd (fun e=>hcd e.symm) q hq qJ
  ·by_cases ed:d=i
   ·subst ed;rw[e2]at qJ;rw[e1 c ec]at hq;exact vdj c hc ec q qJ hq
   ·rw[e1 c ec]at hq;rw[e1 d ed]at qJ;exact h.dj c d hc hd hcd q hq qJ
def jL (L:List NP) (i c:Nat):List Nat:=((L.take i).filter fun p=>decide (p.2=c)).map (·.1)
theorem F4 {L:List NP} (h:i<L.length) (c:Nat):jL L (i+1) c=if c=(bC L i).2 then jL L i c++[(bC L i).1]else jL L i c:=by
 unfold jL;rw[List.take_succ_eq_append_getElem h,List.filter_append,List.map_append,dw h]
 by_cases e:c=L[i].2
 ·rw[if_pos e];simp[e]
 ·rw[if_neg e];have:¬L[i].2=c:=fun h=>e h.symm;simp[this]
theorem I1 (hR:uz n R) {c:Nat}:a∈jL (cS n R) (cS n R).length c↔R a c=true:=by
 unfold jL;rw[List.take_length];simp only[List.mem_map,List.mem_filter,decide_eq_true_eq]
 constructor
 ·rintro⟨p,⟨hp,rfl⟩,rfl⟩;exact(im.1 hp).2.2
 ·intro h;exact⟨(a,c),⟨im.2 ⟨(hR _ _ h).1,(hR _ _ h).2,h⟩,rfl⟩,rfl⟩
theorem zp (L:List NP) (i c:Nat):(jL L i c).length<=L.length:=by
 unfold jL;rw[List.length_map];refine Nat.le_trans (List.length_filter_le _ _) ?_;rw[List.length_take];omega
noncomputable def mL (R:Nat->Nat->Bool) (s:List Nat) (i x:Nat):Bool:=decide (i∈s)&&tL R x i
noncomputable def I2 (R:Nat->Nat->Bool) (s:List Nat) (a y:Nat):Bool:=decide (y∈s)&&tL R a y
noncomputable def zq (R:Nat->Nat->Bool) (l:List Nat) (x:Nat):Bool:=l.any fun a=>decide (x=a)||tL R x a
theorem F5 (R:Nat->Nat->Bool) (l:List Nat) (a x:Nat):zq R (l++[a]) x=(zq R l x||tL R x a||decide (x=a)):=by
 unfold zq;rw[List.any_append];simp only[List.any_cons,List.any_nil,Bool.or_false]
 cases l.any (fun a=>decide (x=a)||tL R x a)<;>cases tL R x a<;>cases decide (x=a)<;>rfl
theorem I3 {l:List Nat} {b:Nat} (h:∀a,a∈l↔R a b=true) (x:Nat):zq R l x=tL R x b:=by
 rw[Bool.eq_iff_iff,gJ];unfold zq;simp only[List.any_eq_true,Bool.or_eq_true,decide_eq_true_eq,gJ]
 constructor
 ·rintro⟨a,ha,e|t⟩
  ·subst e;exact .one ((h x).1 ha)
  ·exact t.trans (.one ((h a).1 ha))
 ·intro t;obtain⟨c,h1,h2⟩:=t.last;exact⟨c,(h c).2 h1,h2⟩
def oo (b n:Nat) (pv sv:Value) (H1 A:Hp) (x y:Value):Prop:=Bl A b [.int .i64 (n:Int),pv,x,y,sv]/\af (fun q=>q=b) H1 A
section
variable {b n:Nat} {pv sv:Value} {H1 A:Hp} {x y:Value}
theorem oo.Q2 (h:oo b n pv sv H1 A x y) (o:Obj):oo b n pv sv H1 (A.push o) x y:=⟨h.1.push o,h.2.push o⟩
theorem oo.st2 (h:oo b n pv sv H1 A x y) (v:Value):oo b n pv sv H1 (ax A ⟨b,2,none⟩ v) v y:=⟨h.1.ax 2 v,h.2.ax _ (.inl rfl)⟩
theorem oo.F6 (h:oo b n pv sv H1 A x y) (v:Value):oo b n pv sv H1 (ax A ⟨b,3,none⟩ v) x v:=⟨h.1.ax 3 v,h.2.ax _ (.inl rfl)⟩
theorem oo.ok2 (h:oo b n pv sv H1 A x y):(cell A ⟨b,2,none⟩).isSome=true/\tN A ⟨b,2,none⟩=false:=h.1.br (o:=2) (by simp)
theorem oo.ok3 (h:oo b n pv sv H1 A x y):(cell A ⟨b,3,none⟩).isSome=true/\tN A ⟨b,3,none⟩=false:=h.1.br (o:=3) (by simp)
theorem oo.I4 {b1:Nat} {v:Value} (hb:b≠b1) (hB:Bl H1 b1 [v]) (h:oo b n pv sv H1 A x y):af (fun q=>q=b) H1 A/\cell A ⟨b,0,none⟩=some (.int .i64 (n:Int))/\cell A ⟨b1,0,none⟩=some v:=
 ⟨h.2,by rw[h.1.cell];rfl,by rw[(h.2.bl hB fun e=>hb e.symm).cell];rfl⟩
end
def RelSpec (P:Program) (ι:aC) (k:FuncId):Prop:=∀(n:Nat) (R:Nat->Nat->Bool) (b:Nat) (pv sv:Value) (H:Hp),n<=256->uz n R->AX R->aU ι H->(ι.g 125≠b)->Bl H b [.int .i64 (n:Int),pv,.slice none 0 0,.slice none 0 0,sv]->bk nE 2 H pv (cS n R)->(∀q,aV pv q->q≠b)→
 aM H sv (iN (yg n R))->(∀q,aV sv q->q≠b)→
 ak P k #[.pointer (some ⟨b,0,none⟩)] H fun r H'=>r=.tuple #[]/\(∃ab bb avs EV B,Bl H' b [.int .i64 (n:Int),pv,.slice (some ⟨ab,0,none⟩) n n,.slice (some ⟨bb,0,none⟩) n n,sv]/\lZ H' ab n (fun i x=>tL R x i) avs B/\lZ H' bb n (fun i x=>tL R i x) EV B∧
  H.size<=ab/\H.size<=bb/\H.size<=B)/\af (fun q=>q=b) H H'
theorem F7 {P:Program} {ι:aC} {k g:FuncId} (hk:dx P k (oh ι) oj 1 121) (ha:dy P (ι.f 137) (ι.f 136)) (hb1:bB P (ι.f 136)=true) (hY:iu P (ι.f 136) (eP ι) eQ 2) (htz:gW P ι (ι.f 126)) (hor:qe P (ι.f 132)) (hwi:km P (ι.f 131)):RelSpec P ι k:=by
 intro n R b pv sv H hn hR hA hT Az hB hp oe hs FA;refine dk hk (args:=[_]) (by simp) ?_;unfold oh oj kA kB kC kD ke kH kI kK kN kO kR kU kV kW ka kb kc kd kf kg kY kZ;have Wl:=hB.lt;have hgl:(cS n R).length<=65536:=Nat.le_trans (uG n R) (Nat.mul_le_mul hn hn);have hc0:cell H ⟨b,0,none⟩=some (.int .i64 (n:Int)):=by rw[hB.cell];rfl
 simp only[go_sem,zS,↓reduceIte,Za,Zb,Zc,reduceCtorEq];refine al fun H1 b1 e1 z1 B1 K1=>?_;have s1:=K1.size;have Wm:=K1.bl hB (by simp);have hcp:cell H1 ⟨b1,0,none⟩=some (.pointer (some ⟨b,0,none⟩)):=by rw[B1.cell];rfl
 have hc0:cell H1 ⟨b,0,none⟩=some (.int .i64 (n:Int)):=by rw[Wm.cell];rfl
 simp only[go_sem,zS,↓reduceIte,Za,Zb,Zc,reduceCtorEq,ae];refine Et (Q:=fun e f' A=>e=.n/\f'=bw (look [(0,.pointer (some ⟨b,0,none⟩))]) 1 (.pointer (some ⟨b1,0,none⟩))/\∃ab bb,Bl A ab (List.replicate n (.slice none 0 0))/\Bl A bb (List.replicate n (.slice none 0 0))/\H1.size<=ab/\H1.size<=bb/\ab≠bb/\Bl A b [.int .i64 (n:Int),pv,.slice (some ⟨ab,0,none⟩) n n,.slice (some ⟨bb,0,none⟩) n n,sv]/\af (fun q=>q=b) H1 A) ?_ ?_
 rotate_left
 ·refine Sq (fun A=>af (fun q=>q=b) H1 A/\Mg.cell A ⟨b,0,none⟩=some (.int .i64 (n:Int))/\Mg.cell A ⟨b1,0,none⟩=some (.pointer (some ⟨b,0,none⟩))) ⟨af.refl _ _,hc0,hcp⟩ ?_;have hmx:(0:Int)<=(n:Int)/\(n:Int)<=n/\((24:Nat):Int)*n<=281474976710656/\(n:Int)<=(maxLen:Int):=⟨by omega,by omega,by omega,by unfold maxLen;omega⟩
  have w0:oo b n pv sv H1 H1 (.slice none 0 0) (.slice none 0 0):=⟨Wm,af.refl _ _⟩
  have rF:b≠b1:=by omega
  simp(config:={contextual:=true})only[go_sem,zS,↓reduceIte,Za,Zb,Zc,reduceCtorEq,ae,hcp,hc0,yO,and_imp,hmx,aj];have hz:∀(A:Hp),Bl (A.push (.cells (rep #[Value.slice none 0 0] n) (ι.t 128))) A.size (List.replicate n (.slice none 0 0)):=fun A=>by
   have:=Bl.cH A (rep #[Value.slice none 0 0] n) (ι.t 128)
   rwa [dg]at this
  have hne:∀(A:Hp),H1.size<=A.size->A.size≠(⟨b,2,none⟩:Addr).block:=fun A h=>by show A.size≠b;omega
  have hne3:∀(A:Hp),H1.size<=A.size->A.size≠(⟨b,3,none⟩:Addr).block:=fun A h=>by show A.size≠b;omega
  have hs1:∀(o:Obj),H1.size<=(H1.push o).size:=fun o=>by simp
  have hs2:∀(o:Obj) (p:Addr) (v:Value),H1.size<=(ax (H1.push o) p v).size:=fun o p v=>by rw[eF];simp
  have h1:=fun o=>w0.Q2 o;have h2:=fun o o'=>(w0.Q2 o).Q2 o';refine⟨⟨oo.I4 rF B1 (h1 _),⟨oo.I4 rF B1 (h2 _ _),(h2 _ _).ok2,oo.I4 rF B1 ((h2 _ _).st2 _),((h2 _ _).st2 _).ok3,oo.I4 rF B1 (((h2 _ _).st2 _).F6 _),?_⟩,(h1 _).ok2,oo.I4 rF B1 ((h1 _).st2 _),oo.I4 rF B1 (((h1 _).st2 _).Q2 _),(((h1 _).st2 _).Q2 _).ok3,oo.I4 rF B1 ((((h1 _).st2 _).Q2 _).F6 _),?_⟩,
   oo.I4 rF B1 (h1 _),oo.I4 rF B1 (h2 _ _),(h2 _ _).ok2,oo.I4 rF B1 ((h2 _ _).st2 _),((h2 _ _).st2 _).ok3,oo.I4 rF B1 (((h2 _ _).st2 _).F6 _),?_⟩
  ·exact⟨_,_,(((hz H1).push _).dM _ (hne _ (Nat.le_refl _))).dM _ (hne3 _ (Nat.le_refl _)),((hz (H1.push _)).dM _ (hne _ (hs1 _))).dM _ (hne3 _ (hs1 _)),Nat.le_refl _,hs1 _,by simp,(((h2 _ _).st2 _).F6 _).1,(((h2 _ _).st2 _).F6 _).2⟩
  ·exact⟨_,_,(((hz H1).dM _ (hne _ (Nat.le_refl _))).push _).dM _ (hne3 _ (Nat.le_refl _)),(hz (ax (H1.push _) _ _)).dM _ (hne3 _ (hs2 _ _ _)),Nat.le_refl _,hs2 _ _ _,by rw[eF];simp,((((h1 _).st2 _).Q2 _).F6 _).1,((((h1 _).st2 _).Q2 _).F6 _).2⟩
  ·exact⟨_,_,((hz (H1.push _)).dM _ (hne _ (hs1 _))).dM _ (hne3 _ (hs1 _)),(((hz H1).push _).dM _ (hne _ (Nat.le_refl _))).dM _ (hne3 _ (Nat.le_refl _)),hs1 _,Nat.le_refl _,by simp,(((h2 _ _).st2 _).F6 _).1,(((h2 _ _).st2 _).F6 _).2⟩
 rintro e f' H2 ⟨rfl,rfl,ab,bb,A2,D2,gab,ZY,hab,B2,K2⟩;have s2:=K2.size;have abj:cell H2 ⟨b1,0,none⟩=some (.pointer (some ⟨b,0,none⟩)):=by rw[(K2.bl B1 (by omega)).cell];rfl
 have abk:cell H2 ⟨b,0,none⟩=some (.int .i64 (n:Int)):=by rw[B2.cell];rfl
 have ac7:=A2.lt;have ac8:=D2.lt;simp only[go_sem,zS,↓reduceIte,Za,Zb,Zc,reduceCtorEq,abj,abk,aj];refine⟨⟨by omega,by omega,by omega,by unfold maxLen;omega⟩,?_⟩;refine aG fun H3 db e3 z3 C3 K3=>?_;rw[dg]at C3;have s3:=K3.size;have gC:=K3.bl (K2.bl B1 (by omega)) (by simp);have B3:=K3.bl B2 (by simp);have A3:=K3.bl A2 (by simp);have D3:=K3.bl D2 (by simp);have abl:cell H3 ⟨b1,0,none⟩=some (.pointer (some ⟨b,0,none⟩)):=by rw[gC.cell];rfl
 have abm:cell H3 ⟨b,1,none⟩=some pv:=by rw[B3.cell];rfl
 have ew:af (fun q=>q=b) H H3:=((K1.any (W:=fun q=>q=b)).trans K2).trans K3.any;have Y4:=hp.ag ew oe;have MX:=hs.ag ew FA;have hT3:=fun{A:Hp} (K:af (fun q=>q=b\/H.size<=q) H A)=>(show aU ι A from K.bl hT (by
  have:=(show Bl H (ι.g 125) _ from hT).lt;omega))
 simp only[go_sem,zS,↓reduceIte,Za,Zb,Zc,reduceCtorEq,ae,abl,abm,hp.aq,hp.bX,hp.len];generalize hL:cS n R=L at hp hgl Y4⊢;have hpairs:∀i,i<L.length->(bC L i).1<n/\(bC L i).2<n/\R (bC L i).1 (bC L i).2=true:=fun i hi=>by
  have:bC L i∈cS n R:=by rw[hL,dw hi];exact List.getElem_mem _
  exact im.1 this
 refine aP [37,4,36] rfl (fun m f H'=>∃(i:Nat) (dvs:List Value),i<=L.length/\m=L.length -i/\f 36=.int .i64 i/\BL H' db n (jL L i) dvs H3.size/\af (fun q=>q=db) H3 H') L.length ?_ ?_
 ·refine⟨0,List.replicate n (.slice none 0 0),by omega,by omega,by simp only[go_sem,zS,↓reduceIte,Za,Zb,Zc,reduceCtorEq,ae];rfl,?_,af.refl _ _⟩;have:=BL.new (B:=H3.size) C3;exact this
 rintro m f H4 ⟨i,dvs,IM,rfl,hf,L4,K4⟩;have s4:=K4.size;simp only[go_sem,zS,↓reduceIte,Za,Zb,Zc,reduceCtorEq,ae]at hf;simp only[go_sem,zS,↓reduceIte,Za,Zb,Zc,reduceCtorEq,hf];refine aH (fun hlt=>?_) (fun jt=>?_)
 ·have hlt:i<L.length:=by omega
  have I5:bk nE 2 H4 pv L:=Y4.ag K4 (fun q hq e=>by have:=hp.bE hq;omega);obtain⟨pb,po,pc,rfl,QZ,hld⟩:=I5.elem jF hlt;obtain⟨q1,q2,q3⟩:=hpairs i hlt;rw[<-dw hlt]at hld;have cP:aR H4 ⟨pb,po+i*2,none⟩ 2=some #[.int .i64 ((bC L i).1:Int),.int .i64 ((bC L i).2:Int)]:=hld;simp only[go_sem,zS,↓reduceIte,Za,Zb,Zc,reduceCtorEq,zF,aj,aB,cP];refine⟨by omega,?_⟩;refine al fun H5 b5 e5 z5 B5 K5=>?_;have s5:=K5.size;have hst:=B5.bK (o:=0) (n:=2) (by simp);have B6:=B5.az 0 [.int .i64 ((bC L i).1:Int),.int .i64 ((bC L i).2:Int)];have K6:af (fun q=>q=b5) H5 (az H5 ⟨b5,0,none⟩ [.int .i64 ((bC L i).1:Int),.int .i64 ((bC L i).2:Int)]):=(af.refl _ _).az _ (.inl rfl);simp only[go_sem,zS,↓reduceIte,Za,Zb,Zc,reduceCtorEq,ae,zF,hst];generalize az H5 ⟨b5,0,none⟩ [.int .i64 ((bC L i).1:Int),.int .i64 ((bC L i).2:Int)]=H6 at B6 K6⊢;have s6:=K6.size;have Tb:cell H6 ⟨b5,0,none⟩=some (.int .i64 ((bC L i).1:Int)):=by rw[B6.cell];rfl
  have Td:cell H6 ⟨b5,1,none⟩=some (.int .i64 ((bC L i).2:Int)):=by rw[B6.cell];rfl
  have hdb:=L4.bl.lt;have K46:af (fun q=>q=b5) H4 H6:=(K5.any (W:=fun q=>q=b5)).trans K6;have L6:=L4.ag K46 (by omega) (fun q h1 h2 e=>by omega);have hcd:=L6.cell q2;refine⟨fun x hx=>by simp at hx;rcases hx with rfl|rfl<;>rfl,?_⟩;have nb5:∀q,q=db\/ay (dvs.getD (bC L i).2 undef) q->q≠b5:=fun q hq e=>by
   rcases hq with h|h
   ·omega
   ·have:=(L4.at_ _ q2).bE h;omega
  have Wo:¬(b5=db\/ay (dvs.getD (bC L i).2 undef) b5):=fun h=>nb5 _ h rfl;refine bj (fun q=>q=db\/ay (dvs.getD (bC L i).2 undef) q) ?_;have K7:∀o,af (fun q=>q=db\/ay (dvs.getD (bC L i).2 undef) q) H6 (H6.push o):=fun o=>(af.refl _ _).push o;have Q3:=zp L i (bC L i).2;have HH:∀(Kk:Value->Hp->Prop),(∀v' H8,BL (ax H8 ⟨db,(bC L i).2,none⟩ v') db n (jL L (i+1)) (dvs.set (bC L i).2 v') H3.size->v'.oneCell'=true->((cell H8 ⟨db,(bC L i).2,none⟩).isSome=true/\tN H8 ⟨db,(bC L i).2,none⟩=false)->af (fun q=>q=db\/ay (dvs.getD (bC L i).2 undef) q) (H6.push (Obj.cells #[Value.int .i64 ((bC L i).1:Int)] (ι.t 26))) H8->af (fun q=>q=db\/ay (dvs.getD (bC L i).2 undef) q) H8 (ax H8 ⟨db,(bC L i).2,none⟩ v')->af (fun q=>q=db) H3 (ax H8 ⟨db,(bC L i).2,none⟩ v')->Kk v' H8)→
    jy false (ι.t 26) 1 8 #[Value.int .i64 0] (dvs.getD (bC L i).2 undef) (.slice (some ⟨H6.size,0,none⟩) 1 1) (H6.push (Obj.cells #[Value.int .i64 ((bC L i).1:Int)] (ι.t 26))) Kk:=by
   intro Kk hKk;have B7:=Bl.cH H6 #[Value.int .i64 ((bC L i).1:Int)] (ι.t 26);have M7:af (fun _=>False) H6 (H6.push (Obj.cells #[Value.int .i64 ((bC L i).1:Int)] (ι.t 26))):=(af.refl _ _).push _;generalize H6.push (Obj.cells #[Value.int .i64 ((bC L i).1:Int)] (ι.t 26))=H7 at B7 M7 hKk⊢;have Wp:Bl H7 H6.size (iN [(bC L i).1]):=B7;have s7:=M7.size;have L7:=L6.ag M7 (by simp) (by simp);have hs7:aM H7 (.slice (some ⟨H6.size,0,none⟩) 1 1) (iN [(bC L i).1]):=aM.bl Wp 0 1 1 (by omega) (by simp[aW]);refine lI (l:=iN (jL L i (bC L i).2)) (m:=iN [(bC L i).1]) (L7.at_ _ q2) hs7 (gH _) rfl (by unfold maxLen;rw[aW,aW];simp;omega) (by rw[aW,aW];simp;omega) fun v' H8 O8 M8 N8=>?_;rw[<-rD]at O8;have s8:=M8.size;have L9:=L7.app q2 O8 M8 N8 (by omega) (by omega);have KD:af (fun q=>q=db) H8 (ax H8 ⟨db,(bC L i).2,none⟩ v'):=(af.refl _ _).ax _ (.inl rfl);have odb:¬ay (dvs.getD (bC L i).2 undef) db:=fun h=>by have:=L7.ge _ q2 _ h;omega
   obtain⟨va,vn,vc,rfl⟩:=O8.shape;refine hKk _ H8 ?_ rfl ?_ (M8.mono fun q _ h=>.inr h) (KD.mono fun q _ h=>.inl h) ?_
   ·have e:jL L (i+1)=fun c=>if c=(bC L i).2 then jL L i (bC L i).2++[(bC L i).1]else jL L i c:=by
     funext c
     rw[F4 hlt]
     by_cases e:c=(bC L i).2
     ·rw[if_pos e,if_pos e,e]
     ·rw[if_neg e,if_neg e]
    rw[e];exact L9
   ·exact(M8.bl L7.bl odb).br (by rw[L7.len];exact q2)
   ·exact(((K4.trans' K46 (fun j hj h=>by omega)).trans M7.any).trans' M8 (fun j hj h=>by have:=L7.ge _ q2 _ h;omega)).trans KD
  have abn:∀o,cell (H6.push o) ⟨db,(bC L i).2,none⟩=some (dvs.getD (bC L i).2 undef):=fun o=>(L6.ag (W:=fun _=>False) ((af.refl _ _).push o) (by simp) (by simp)).cell q2;simp only[go_sem,zS,↓reduceIte,Za,Zb,Zc,reduceCtorEq,ae,hf,Tb,Td,hcd,abn,aj,Nat.mul_one,Nat.zero_add];refine⟨by omega,Wo,by omega,Wo,by omega,by omega,Wo,⟨af.refl _ _,K7 _,HH _ fun v' H8 g1 g2 g3 g4 g5 g6=>?_⟩,K7 _,af.refl _ _,HH _ fun v' H8 g1 g2 g3 g4 g5 g6=>?_⟩
  all_goals
   simp(disch:=omega)only[go_sem,zS,↓reduceIte,Za,Zb,Zc,reduceCtorEq,ae,hf,g2,g3,g4,g5,aj,Nat.mul_one,Nat.zero_add,IntWalk.i64_in];exact⟨by omega,g2,L.length -(i+1),by omega,i+1,_,by omega,rfl,by rfl,g1,g6⟩
 ·have:i=L.length:=by omega
  subst this;have hdm:∀a c,a∈jL L L.length c↔R a c=true:=fun a c=>by rw[<-hL];exact I1 hR
  have hdlen:∀c,(jL L L.length c).length<=65536:=fun c=>Nat.le_trans (zp L _ c) hgl;generalize Te:jL L L.length=ls at L4 hdm hdlen;have hsn:=(vv hR).2 hA;have hpre:=EA hR;have B4:=K4.bl B3 (by omega);have pt:=K4.bl gC (by omega);have abo:cell H4 ⟨b1,0,none⟩=some (.pointer (some ⟨b,0,none⟩)):=by rw[pt.cell];rfl
  have abp:cell H4 ⟨b,4,none⟩=some sv:=by rw[B4.cell];rfl
  have A4:=lZ.new (B:=H4.size) (K4.bl A3 (by omega));have D4:=lZ.new (B:=H4.size) (K4.bl D3 (by omega));have Y5:af (fun q=>q=b\/H.size<=q) H H4:=(ew.mono fun q _ h=>.inl h).trans (K4.mono fun q _ h=>.inr (by omega));have hs4:=hs.ag Y5 (fun q hq h=>by
   rcases h with h|h
   ·exact FA q hq h
   ·have:=hs.bE hq;omega)
  have hs4lt:∀q,aV sv q->q<H.size:=fun q hq=>hs.bE hq;have hT4:=hT3 Y5;have ac9:=L4.bl.lt;simp only[go_sem,zS,↓reduceIte,Za,Zb,Zc,reduceCtorEq,ae,abo,abp,hs.aq,hs.len,aW,hsn];generalize hsd:yg n R=s at hs4 hsn hpre⊢;refine aP [60,6,66,67,68,69,8,103,59,121] rfl (fun m f A=>∃(t:Nat) (avs EV:List Value) (ms:List Nat),t<=n/\m=n -t/\f 59=.int .i64 t/\iJ (f 121)=ms/\ms.Nodup/\(∀q∈ms,H4.size<=q/\A[q]?=some (.deferred (some [])))∧
   lZ A ab n (mL R (s.take t)) avs H4.size/\lZ A bb n (I2 R (s.take t)) EV H4.size/\af (fun q=>q=ab\/q=bb) H4 A) n ?_ ?_
  ·refine⟨0,_,_,[],by omega,by omega,by simp only[go_sem,zS,↓reduceIte,Za,Zb,Zc,reduceCtorEq,ae];rfl,by rfl,List.nodup_nil,by simp,A4.congr fun i hi x=>by simp[mL],D4.congr fun i hi x=>by simp[I2],af.refl _ _⟩
  rintro m g H5 ⟨t,avs,EV,ms,htn,rfl,hf,hms,hnd,hmk,A5,D5,K5⟩;have s5:=K5.size;simp only[go_sem,zS,↓reduceIte,Za,Zb,Zc,reduceCtorEq,ae]at hf hms;simp only[go_sem,zS,↓reduceIte,Za,Zb,Zc,reduceCtorEq,hf];refine aH (fun hlt=>?_) (fun jt=>?_)
  ·have hlt:t<s.length:=by omega
   have hs5:=hs4.ag K5 (fun q hq h=>by have:=hs4lt q hq;omega);obtain⟨sb,so,sc,rfl,-,-⟩:=hs5.cells (by intro e;have:=congrArg List.length e;rw[aW,List.length_nil]at this;omega);have hcs:=hs5.Ew (i:=t) (by rw[aW];exact hlt);obtain⟨b0,hb0⟩:∃b0,b0=s[t]:=⟨_,rfl⟩
   have hcs:cell H5 ⟨sb,so+t,none⟩=some (.int .i64 (b0:Int)):=by
    rw[hcs,hb0];simp[iN,iL,hlt]
   have tW:b0<n:=by rw[hb0];exact hpre.lt _ (List.getElem_mem _)
   simp only[go_sem,zS,↓reduceIte,Za,Zb,Zc,reduceCtorEq,zF,aj,Nat.mul_one,hcs,aW];refine⟨by omega,?_⟩;refine al fun H6 b6 e6 z6 B6 K6=>?_;have s6:=K6.size;have abq:=B6.br (o:=0) (by simp);have B7:=B6.ax 0 (.int .i64 (b0:Int));have K7:af (fun q=>q=b6) H6 (ax H6 ⟨b6,0,none⟩ (.int .i64 (b0:Int))):=(af.refl _ _).ax _ (.inl rfl);simp only[go_sem,zS,↓reduceIte,Za,Zb,Zc,reduceCtorEq,zF,abq];rw[ae];generalize ax H6 ⟨b6,0,none⟩ (.int .i64 (b0:Int))=H7 at B7 K7⊢;have s7:=K7.size;have BM:af (fun q=>q=b6) H5 H7:=(K6.any (W:=fun q=>q=b6)).trans K7;have c6:cell H7 ⟨b6,0,none⟩=some (.int .i64 (b0:Int)):=by rw[B7.cell];rfl
   have L7:BL H7 db n ls dvs H3.size:=(L4.ag K5 (by omega) (fun q h1 h2 e=>by omega)).ag BM (by omega) (fun q h1 h2 e=>by omega);have cdb:=L7.cell tW;have OL:=L7.at_ b0 tW;have A7:=A5.ag BM (by omega) (fun q h1 h2 e=>by omega);have D7:=D5.ag BM (by omega) (fun q h1 h2 e=>by omega);have hm7:∀q∈ms,H7[q]?=some (.deferred (some [])):=fun q hq=>by
    have h:=(hmk q hq).2;have hlt:=(Array.getElem?_eq_some_iff.1 h).1;rw[BM.at_ q hlt (by omega)];exact h
   have Y6:af (fun q=>q=ab\/q=bb) H4 H7:=K5.trans' BM (fun j hj h=>by omega);have BN:=Y6.bl pt (by omega);have mM:=Y6.bl B4 (by omega);have hT7:=hT3 (Y5.trans (Y6.mono fun q _ h=>.inr (by omega)));have abr:∀{A:Hp} {W:Nat->Prop},af W H7 A->(∀q,q<H.size->¬W q)->aU ι A:=fun K hw=>K.bl hT7 (hw _ (show Bl H (ι.g 125) _ from hT).lt);have EP:s.take (t+1)=s.take t++[b0]:=by rw[List.take_succ_eq_append_getElem hlt,hb0]
   have hb0t:b0∉s.take t:=fun hm=>by
    obtain⟨q,hq,e⟩:=List.getElem_of_mem hm;rw[List.length_take]at hq;rw[List.getElem_take]at e;have:=List.pairwise_iff_getElem.1 hpre.nd q t (by omega) hlt (by omega);exact this (by rw[e,hb0])
   have hpr:∀a,R a b0=true->a∈s.take t:=fun a ha=>hpre.closed hR hlt (by rw[<-hb0];exact ha);simp only[go_sem,zS,↓reduceIte,Za,Zb,Zc,reduceCtorEq,ae,c6,aj,Nat.mul_one,Nat.zero_add,cdb,OL.sl.aq,OL.sl.len,aW];refine⟨by omega,?_⟩;refine aP [69,8,68] rfl (fun m f A=>∃(j:Nat) (abt:List Value),j<=(ls b0).length/\m=(ls b0).length -j/\f 68=.int .i64 j/\lZ A ab n (fun i=>if i=b0 then zq R ((ls b0).take j)else mL R (s.take t) i) abt H4.size/\af (fun q=>q=ab) H7 A) (ls b0).length ?_ ?_
   ·refine⟨0,_,by omega,by omega,by simp only[go_sem,zS,↓reduceIte,Za,Zb,Zc,reduceCtorEq,ae];rfl,A7.congr fun i hi x=>?_,af.refl _ _⟩
    by_cases e:i=b0
    ·subst e;simp[mL,zq,hb0t]
    ·simp[e]
   rintro m f H8 ⟨j,Tf,hj,rfl,BC,A8,K8⟩;have s8:=K8.size;simp only[go_sem,zS,↓reduceIte,Za,Zb,Zc,reduceCtorEq,ae]at BC;simp only[go_sem,zS,↓reduceIte,Za,Zb,Zc,reduceCtorEq,BC];refine aH (fun Tg=>?_) (fun abu=>?_)
   ·have tX:j<(ls b0).length:=by omega
    have L8:BL H8 db n ls dvs H3.size:=L7.ag K8 (by omega) (fun q h1 h2 e=>by omega);have O8:=L8.at_ b0 tW;obtain⟨lb,lo,lc,VH,-,-⟩:=O8.sl.cells (by intro e;have:=congrArg List.length e;rw[aW,List.length_nil]at this;omega);have O8':=O8.sl;rw[VH]at O8';have hcl:=O8'.Ew (i:=j) (by rw[aW];exact tX);obtain⟨a,ha⟩:∃a,a=(ls b0)[j]:=⟨_,rfl⟩
    have hcl:cell H8 ⟨lb,lo+j,none⟩=some (.int .i64 (a:Int)):=by
     rw[hcl,ha];simp[iN,iL,tX]
    have hRa:R a b0=true:=(hdm a b0).1 (by rw[ha];exact List.getElem_mem _);have NU:=(hR _ _ hRa).1;have Wq:=hpr a hRa;have Wr:a≠b0:=fun e=>hb0t (e▸Wq);have Y7:=K8.bl BN (by omega);have Y8:=K8.bl mM (by omega);have Y9:=K8.bl B7 (by omega);have cp8:cell H8 ⟨b1,0,none⟩=some (.pointer (some ⟨b,0,none⟩)):=by rw[Y7.cell];rfl
    have c28:cell H8 ⟨b,2,none⟩=some (.slice (some ⟨ab,0,none⟩) n n):=by rw[Y8.cell];rfl
    have c68:cell H8 ⟨b6,0,none⟩=some (.int .i64 (b0:Int)):=by rw[Y9.cell];rfl
    simp only[go_sem,zS,↓reduceIte,Za,Zb,Zc,reduceCtorEq,ae,BC,VH,aj,Nat.mul_one,Nat.zero_add,hcl,aW];refine⟨by omega,?_⟩;refine bj (fun q=>q=ab) ?_;have nab:¬b1=ab/\¬b=ab/\¬b6=ab:=⟨by omega,by omega,by omega⟩
    simp only[go_sem,zS,↓reduceIte,Za,Zb,Zc,reduceCtorEq,ae,BC,cp8,c28,c68,aj,Nat.mul_one,Nat.zero_add,aB,A8.ld tW,A8.ld NU,nab.1,nab.2.1,nab.2.2];have SA:=A8.at_ b0 tW;have SB:=A8.at_ a NU;simp only[if_pos rfl]at SA;rw[if_neg Wr]at SB;refine⟨by omega,by omega,⟨af.refl _ _,af.refl _ _,(hor _ _ _ _ H8 SA SB).mono ?_⟩,af.refl _ _,af.refl _ _,(hor _ _ _ _ H8 SA SB).mono ?_⟩
    all_goals
     rintro r H9 ⟨S9,K9,g9⟩;simp only[go_sem,zS,↓reduceIte,Za,Zb,Zc,reduceCtorEq,ae];refine⟨K9.any,(hwi _ _ (a:Int) H9 S9).mono ?_⟩;rintro r HA ⟨S10,og,g10⟩;obtain⟨v,Wd,rfl,hV⟩:=S10;have s9:=K9.size;have s10:=og.size;have Wt:lZ HA ab n (fun i=>if i=b0 then zq R ((ls b0).take j)else mL R (s.take t) i) Tf H4.size:=(A8.ag K9 (by simp) (by simp)).ag og (by simp) (by simp);have hvb:∀q,aV v q->H4.size<=q:=fun q hq=>by
      rcases g10 q hq with h|h
      ·have:=g9 q h;omega
      ·omega
     have A11:=Wt.st tW ⟨v,Wd,rfl,hV⟩ hvb (by omega);have abv:=Wt.ok tW;have Vd:af (fun q=>q=ab) HA (az HA ⟨ab,b0,none⟩ [v]):=(af.refl _ _).az _ (.inl rfl);have F8:bI #[v]:=hV.sl.one;simp(disch:=omega)only[go_sem,zS,↓reduceIte,Za,Zb,Zc,reduceCtorEq,ae,BC,aj,Nat.mul_one,Nat.zero_add,iV,eY,aT,IntWalk.i64_in];have hlb:=hdlen b0;refine⟨og.any,by omega,⟨abv,F8⟩,Vd,(ls b0).length -(j+1),by omega,j+1,_,by omega,rfl,by rw[IntWalk.i64_in _ (by omega)];rfl,A11.congr fun i hi x=>?_,((K8.trans K9.any).trans og.any).trans Vd⟩
     by_cases e:i=b0
     ·subst e;simp only[if_true];rw[List.take_succ_eq_append_getElem tX,F5,<-ha];unfold jn mL;have e1:decide (((x:Nat):Int)=(a:Int))=decide (x=a):=by rw[decide_eq_decide];omega
      rw[e1]
      by_cases ex:x=a
      ·subst ex;simp[Wq];omega
      ·simp[ex,Wq]
     ·simp only[if_neg e]
   ·have:j=(ls b0).length:=by omega
    subst this;have A9:lZ H8 ab n (mL R (s.take (t+1))) Tf H4.size:=A8.congr fun i hi x=>by
     by_cases e:i=b0
     ·subst e;simp only[if_true,List.take_length];rw[I3 (fun a=>hdm a i) x];unfold mL;rw[EP];simp
     ·simp only[if_neg e];unfold mL;rw[EP];simp[e]
    have Y7:=K8.bl BN (by omega);have Y8:=K8.bl mM (by omega);have Y9:=K8.bl B7 (by omega);have cp8:cell H8 ⟨b1,0,none⟩=some (.pointer (some ⟨b,0,none⟩)):=by rw[Y7.cell];rfl
    have c28:cell H8 ⟨b,2,none⟩=some (.slice (some ⟨ab,0,none⟩) n n):=by rw[Y8.cell];rfl
    have c68:cell H8 ⟨b6,0,none⟩=some (.int .i64 (b0:Int)):=by rw[Y9.cell];rfl
    have D8:=D7.ag K8 (by omega) (fun q h1 h2 e=>by omega);have SA:=A9.at_ b0 tW;obtain⟨v0,W0,lO,hV0⟩:=SA;simp only[Value.agg.injEq,Array.mk.injEq,List.cons.injEq,and_true]at lO;have hm8:∀q∈ms,H8[q]?=some (.deferred (some [])):=fun q hq=>by
     have h:=hm7 q hq;have hlt:=(Array.getElem?_eq_some_iff.1 h).1;rw[K8.at_ q hlt (fun e=>by
      obtain⟨T,hb⟩:=A7.bl;have e:q=ab:=e;rw[e]at h;rw[hb]at h;cases h)]
     exact h
    simp only[go_sem,zS,↓reduceIte,Za,Zb,Zc,reduceCtorEq,ae,cp8,c28,c68,aj,Nat.mul_one,Nat.zero_add,aB,A9.ld tW];refine⟨by omega,(ha _ H8).mono ?_⟩;rintro r H9 ⟨rfl,B9,K9,s9⟩;simp only[go_sem,zS,↓reduceIte,Za,Zb,Zc,reduceCtorEq,ae];have s9':=K9.size;have Wt:=A9.ag K9 (by simp) (by simp);have D10:=D8.ag K9 (by simp) (by simp);have hV9:dS H9 v0 W0 (mL R (s.take (t+1)) b0):=hV0.ag K9 (by simp);have QZ:∀a,mL R (s.take (t+1)) b0 a=tL R a b0:=fun a=>by unfold mL;rw[EP];simp
    generalize Sx:mL R (s.take (t+1)) b0=p at hV9 QZ;have Wu:Bl H9 H8.size [v0]:=by rw[<-lO];exact B9
    have hmem:∀a∈aJ p,R a b0=R a b0/\a<n/\tL R a b0=true:=fun a h=>by
     obtain⟨h1,h2⟩:=dQ.1 h;rw[QZ]at h2;exact⟨rfl,(hR.tc (gJ.1 h2)).1,h2⟩
    have B19:=K9.bl Y7 (by simp);have B49:=K9.bl Y8 (by simp);have B69:=K9.bl Y9 (by simp);have hb6:=B7.lt;have hT9:aU ι H9:=abr (K8.trans K9.any) (fun q hq e=>by omega);refine uE (fun q=>q=bb) (fun k A=>∃BQ,lZ A bb n (fun a y=>I2 R (s.take t) a y||(decide (y=b0)&&decide (a∈(aJ p).take k))) BQ H4.size/\∀i<n,∀q,aV (BQ.getD i undef) q->q<H9.size\/H9.size+2<=q) (fun _ _=>False) (G:=fun H=>aU ι H/\Bl H H8.size [v0]/\dS H v0 W0 p) (by simp only[go_sem,zS,↓reduceIte,Za,Zb,Zc,reduceCtorEq,ae];rfl) hb1 (iv hY htz) (by omega) ?_ ?_ ?_ ?_ ?_ ?_ ?_
    ·rintro k A KA _;refine⟨KA.bl hT9 (by have:=(show Bl H (ι.g 125) _ from hT).lt;omega),KA.bl Wu (by omega),hV9.ag KA fun q hq e=>?_⟩;have h1:=Wt.ge b0 tW q (by rw[lO];exact hq);omega
    ·intro A KA gX;refine⟨EV,(D10.ag KA (by simp) (by simp)).congr fun i hi x=>by simp,fun i hi q hq=>.inl ?_⟩;exact(D10.at_ i hi).bE hq
    ·rintro k A A' gX KA ⟨BQ,g1,g2⟩ K;exact⟨BQ,⟨K.bl g1.bl (by omega),g1.len,fun i hi=>(g1.at_ i hi).ag K fun q hq e=>by have:=g2 i hi q hq;omega,g1.ge⟩,g2⟩
    ·rintro e A A2 hs KA h;exact h.elim
    ·rintro k A hk KA gX ⟨BQ,g1,g2⟩;have hkl:k<(aJ p).length:=by simpa[bL]using hk
     obtain⟨a,ha⟩:∃a,a=(aJ p)[k]:=⟨_,rfl⟩
     have hxv:(bL p).getD k undef=.int .i64 (a:Int):=by
      rw[List.getD_eq_getElem?_getD,List.getElem?_eq_getElem hk];simp[bL,ha]
     rw[hxv];obtain⟨_,NU,hta⟩:=hmem a (by rw[ha];exact List.getElem_mem _);have Wr:a≠b0:=fun e=>by subst e;exact hA a (gJ.1 hta)
     have Hh:=KA.bl B19 (by omega);have Wv:=KA.bl B49 (by omega);have B6A:=KA.bl B69 (by omega);have cpA:cell A ⟨b1,0,none⟩=some (.pointer (some ⟨b,0,none⟩)):=by rw[Hh.cell];rfl
     have c3A:cell A ⟨b,3,none⟩=some (.slice (some ⟨bb,0,none⟩) n n):=by rw[Wv.cell];rfl
     have c6A:cell A ⟨b6,0,none⟩=some (.int .i64 (b0:Int)):=by rw[B6A.cell];rfl
     simp only[go_sem,zS,↓reduceIte,Za,Zb,Zc,reduceCtorEq,ae];refine bj (fun q=>q=bb) ?_;have nbb:¬b1=bb/\¬b=bb/\¬b6=bb:=⟨by omega,by omega,by omega⟩
     simp only[go_sem,zS,↓reduceIte,Za,Zb,Zc,reduceCtorEq,ae,cpA,c3A,c6A,aj,Nat.mul_one,Nat.zero_add,aB,g1.ld NU,nbb.1,nbb.2.1,nbb.2.2];refine⟨by omega,af.refl _ _,(hwi _ _ (b0:Int) A (g1.at_ a NU)).mono ?_⟩;rintro r A1 ⟨S1,L1,l1⟩;obtain⟨v,Wd,rfl,hV⟩:=S1;have t1:=L1.size;have G1:=g1.ag L1 (by simp) (by simp);have hvb:∀q,aV v q->H4.size<=q/\(q<H9.size\/H9.size+2<=q):=fun q hq=>by
      rcases l1 q hq with h|h
      ·exact⟨g1.ge a NU q h,g2 a NU q h⟩
      ·exact⟨by omega,by omega⟩
     have G2:=G1.st NU ⟨v,Wd,rfl,hV⟩ (fun q hq=>(hvb q hq).1) (by omega);have okA:=G1.ok NU;have M2:af (fun q=>q=bb) A1 (az A1 ⟨bb,a,none⟩ [v]):=(af.refl _ _).az _ (.inl rfl);have F8:bI #[v]:=hV.sl.one;simp only[go_sem,zS,↓reduceIte,Za,Zb,Zc,reduceCtorEq,ae,aj,Nat.mul_one,Nat.zero_add,iV,eY,aT];refine⟨L1.any,by omega,⟨okA,F8⟩,M2,L1.any.trans (M2.mono fun q _ h=>.inl h),_,G2.congr fun i hi x=>?_,fun i hi q hq=>?_⟩
     ·rw[List.take_succ_eq_append_getElem hkl,<-ha]
      by_cases e:i=a
      ·subst e;simp only[if_true];unfold jn;have e1:decide (((x:Nat):Int)=(b0:Int))=decide (x=b0):=by rw[decide_eq_decide];omega
       rw[e1]
       by_cases ex:x=b0
       ·subst ex;simp;omega
       ·simp[ex]
      ·simp only[if_neg e];simp[e]
     ·by_cases e:i=a
      ·subst e;rw[List.getD_eq_getElem?_getD,List.getElem?_set_self (by rw[g1.len];exact hi)]at hq;exact(hvb q hq).2
      ·rw[List.getD_eq_getElem?_getD,List.getElem?_set_ne (fun h=>e h.symm),<-List.getD_eq_getElem?_getD]at hq;exact g2 i hi q hq
    ·rintro A KA gX hd ⟨BQ,g1,g2⟩;simp(disch:=omega)only[go_sem,zS,↓reduceIte,Za,Zb,Zc,reduceCtorEq,ae,hf,hms,IntWalk.i64_in];have hms8:∀q∈ms,q<H8.size:=fun q hq=>(Array.getElem?_eq_some_iff.1 (hm8 q hq)).1;refine⟨n -(t+1),by omega,t+1,Tf,BQ,H9.size::ms,by omega,rfl,by rfl,?_,?_,?_,(by rw[<-EP]at*;exact Wt.ag KA (by omega) (fun q h1 h2 e=>by omega)),g1.congr fun i hi x=>?_,?_⟩
     ·rfl
     ·exact List.nodup_cons.2 ⟨fun h=>by have:=hms8 _ h;omega,hnd⟩
     ·intro q hq;rcases List.mem_cons.1 hq with e|hq
      ·subst e;exact⟨by omega,hd⟩
      ·refine⟨(hmk q hq).1,?_⟩;have:=hms8 q hq;rw[KA.at_ q (by omega) (fun e=>by
        have e:q=bb:=e;obtain⟨T,hb⟩:=D8.bl;have h:=hm8 q hq;rw[e]at h;rw[hb]at h;cases h),K9.at_ q (by omega) (by simp)]
       exact hm8 q hq
     ·have e0:(aJ p).take (bL p).length=aJ p:=List.take_of_length_le (by simp[bL]);rw[e0];unfold I2;rw[EP];have em:decide (i∈aJ p)=tL R i b0:=by
       rw[Bool.eq_iff_iff,decide_eq_true_iff,dQ,QZ];exact⟨fun h=>h.2,fun h=>⟨by omega,h⟩⟩
      rw[em]
      by_cases e:x=b0
      ·subst e;simp[hb0t]
      ·simp[e]
     ·exact((Y6.trans (K8.mono fun q _ h=>.inl h)).trans K9.any).trans (KA.mono fun q _ h=>.inr h)
    ·rintro e A _ _ _ h;exact h.elim
  ·have ht:t=n:=by omega
   subst ht;have iQ:∀i,i<t->i∈s.take t:=fun i hi=>by
    rw[List.take_of_length_le (by omega)];exact qX hpre.nd hpre.lt (by omega) hi
   simp only[go_sem,zS,↓reduceIte,Za,Zb,Zc,reduceCtorEq,ae,hms];refine⟨hnd,fun m hm=>(hmk m hm).2,fun A2 ha2 hb2=>?_⟩;have M:af (fun q=>q∈ms) H5 A2:=⟨by omega,fun q _ h=>hb2 q h⟩
   have hm5:∀q∈ms,H5[q]?=some (.deferred (some [])):=fun q hq=>(hmk q hq).2;have B5:=K5.bl B4 (by omega);refine⟨⟨ab,bb,avs,EV,H4.size,M.bl B5 (fun h=>by have:=(hmk b h).1;omega),(A5.congr fun i hi x=>?_).Q1 M hm5,(D5.congr fun i hi x=>?_).Q1 M hm5,by omega,by omega,by omega⟩,?_⟩
   ·unfold mL;simp[iQ i hi]
   ·unfold I2
    cases hx:tL R i x with
    |false=>simp
    |true=>simp[iQ x (hR.tc (gJ.1 hx)).2]
   ·exact((Y5.trans' K5 (fun j hj h=>by omega)).trans' M (fun j hj h=>by have:=(hmk j h).1;omega)).mono fun q hq h=>by omega
end Go.Mg
namespace Go.Mg
open Go Go.RowKit
def BU (ι:aC):S:=
 kY [kC 4 (.pointer .none),kC 5 (.int .i64 0)] (.seq (kY [kA 10 0,kU 11 (.cm .lss .i64 (.t 10) (.c (.int .i64 0))),kF 12 11,kS 13 12 false 0,kT 14 12 false (.cm .gtr .i64 (.t 13) (.c (.int .i64 256))),kV 15 (.pick (.t 12) (.c (.bool true)) (.t 14))] (.ite (.v 15) (kY [kC 4 (.pointer .none),kC 5 (.int .i64 1)] .ret) .skip)) (.seq (kY [kV 16 (.mv (.v 1)),kO 17 16,kC 18 (.int .i64 0)] (.blk 0 (.loop (kY [kH 19 18 17] (.seq (.ite (.v 19) .skip (.exit 0)) (.seq (.blk 1 (kY [kK 20 2 16 18,kN 21 2 20,kd 7 (.new (ι.t 194) #[.int .i64 0,.int .i64 0]),kf (.stn 2 (.v 7) (.t 21))] (kY [kP 22 2 1 7 0,kD 23 22,kP 24 2 1 7 1,kD 25 24,kU 26 (.m (.mn (.t 23) (.t 25))),kU 27 (.cm .lss .i64 (.t 26) (.c (.int .i64 0))),kF 28 27,kT 29 28 false (.ia 2 1 (.v 7) (.c (.int .i64 0))),kT 30 28 false (.ld (.t 29)),kT 31 28 false (.ia 2 1 (.v 7) (.c (.int .i64 1))),kT 32 28 false (.ld (.t 31)),kT 33 28 false (.m (.mx (.t 30) (.t 32))),kS 34 28 false 0,kT 35 28 false (.cm .geq .i64 (.t 33) (.t 34)),kV 36 (.pick (.t 28) (.c (.bool true)) (.t 35))] (.ite (.v 36) (kY [kC 4 (.pointer .none),kC 5 (.int .i64 2)] .ret) .skip)))) (.reg [ke 37 18,kB 18 37]))))))) (kY [kc 38 (.bF (ι.t 194) 2 0 []),kA 39 1,kc 40 (.app false (ι.t 194) 2 16 #[.int .i64 0,.int .i64 0] (.t 38) (.t 39)),kB 8 40] (kY [kA 41 8,kc 42 (kg (ι.f 198) [.t 41,.c (.func (.func (ι.f 200)) #[] #[])])] (kY [kA 43 0,kA 44 8,kc 45 (kg (ι.f 193) [.t 44]),kc 46 (kg (ι.f 192) [.t 45]),kU 47 (.m (.gz #[.int .i64 0,kZ,kZ,kZ,kZ] [(0,(1,.t 43)),(1,(1,.t 46))])),kc 48 (.box (ι.t 199) (.t 47)),kB 9 48] (.seq (kY [kA 49 9,kc 50 (kg (ι.f 195) [.t 49]),kV 51 (.not (.t 50))] (.ite (.v 51) (kY [kC 4 (.pointer .none),kC 5 (.int .i64 16)] .ret) .skip)) (kY [kA 52 9,kc 53 (kg (ι.f 197) [.t 52])] (kY [kA 54 9,kB 4 54,kC 5 (.int .i64 0)] .ret))))))))
def BV:List RV:=[.t 4,.t 5]
theorem Ww (a b c d e x:Value):jh #[a,b,c,d,e] 0 [x]=#[x,b,c,d,e]:=rfl
theorem Wy (a b c d e x:Value):jh #[a,b,c,d,e] 1 [x]=#[a,x,c,d,e]:=rfl
variable {H:Hp} {v:Value} {B B':Nat}
theorem bk.conv {α β:Type} {enc:α->List Value} {BW:β->List Value} {k:Nat} {l:List α} {l':List β} (h:bk enc k H v l) (e:l'.length=l.length) (f:l'.flatMap BW=l.flatMap enc):bk BW k H v l':=by
 rcases h with⟨a,c,rfl,rfl⟩|⟨b,o,c,hl,rfl,h0,C,T,z,h1,h2,h3⟩
 ·have:l'=[]:=List.eq_nil_of_length_eq_zero (by simpa using e);subst this;exact bk.nil _ _ _
 ·exact .inr ⟨b,o,c,fun h=>by subst h;exact hl (List.eq_nil_of_length_eq_zero (by simpa using e.symm)),by rw[e],by omega,C,T,z,h1,by rw[e];exact h2,by rw[e,f];exact h3⟩
def wh (H:Hp) (v:Value) (n:Nat) (R:Nat->Nat->Bool):Prop:=n<=256/\uz n R/\AX R/\∃b pv sv ab bb avs EV C,v=.pointer (some ⟨b,0,none⟩)/\Bl H b [.int .i64 (n:Int),pv,.slice (some ⟨ab,0,none⟩) n n,.slice (some ⟨bb,0,none⟩) n n,sv]∧
 bk nE 2 H pv (cS n R)/\lZ H ab n (fun i x=>tL R x i) avs C/\lZ H bb n (fun i x=>tL R i x) EV C/\aM H sv (iN (yg n R))
theorem wh.ai {H':Hp} {n:Nat} {R:Nat->Nat->Bool} (h:wh H v n R) (hk:af (fun _=>False) H H'):wh H' v n R:=by
 obtain⟨h1,h2,h3,b,pv,sv,ab,bb,avs,EV,C,e,g1,g2,g3,g4,g5⟩:=h;exact⟨h1,h2,h3,b,pv,sv,ab,bb,avs,EV,C,e,hk.bl g1 (by simp),g2.ai hk,g3.ag hk (by simp) (by simp),g4.ag hk (by simp) (by simp),g5.ag hk (by simp)⟩
theorem Bl.uniq {b:Nat} {l m:List Value} (h:Bl H b l) (k:Bl H b m):l=m:=by
 obtain⟨T,h⟩:=h;obtain⟨T',k⟩:=k;rw[h]at k;simp only[Option.some.injEq,Obj.cells.injEq]at k;have:=congrArg Array.toList k.1;simpa using this
def Zj (B:Nat) (H:Hp) (v:Value):Prop:=∀b n ab bb pv sv,v=.pointer (some ⟨b,0,none⟩)->Bl H b [.int .i64 ((n:Nat):Int),pv,.slice (some ⟨ab,0,none⟩) n n,.slice (some ⟨bb,0,none⟩) n n,sv]->B<=b/\B<=ab/\B<=bb/\(∀q,aV pv q->B<=q)/\(∀q,aV sv q->B<=q)∧
 ∀vs,(Bl H ab vs\/Bl H bb vs)->∀i<n,∀q,aV (vs.getD i undef) q->B<=q
def I6 (B:Nat) (H:Hp) (r:Value):Prop:=∀v e,r=.tuple #[v,e]->Zj B H v
theorem Zj.mono (h:Zj B H v) (hb:B'<=B):Zj B' H v:=fun b n ab bb pv sv e h1=>by
 obtain⟨k1,k2,k3,k4,k5,k6⟩:=h b n ab bb pv sv e h1;exact⟨by omega,by omega,by omega,fun q hq=>Nat.le_trans hb (k4 q hq),fun q hq=>Nat.le_trans hb (k5 q hq),fun vs hv i hi q hq=>Nat.le_trans hb (k6 vs hv i hi q hq)⟩
theorem I6.mono (h:I6 B H v) (hb:B'<=B):I6 B' H v:=fun v e he=>(h v e he).mono hb
theorem I6.z (B:Nat) (H:Hp) (e:Value):I6 B H (.tuple #[.pointer none,e]):=fun v e' he b n ab bb pv sv hv=>by
 simp only[Value.tuple.injEq,Array.mk.injEq,List.cons.injEq]at he;rw[<-he.1]at hv
 cases hv
def lP (L:List (Int×Int)) (a b:Nat):Bool:=decide ((((a:Nat):Int),((b:Nat):Int))∈L)
def l8 (n:Int) (p:Int×Int):Prop:=0<=p.1/\p.1<n/\0<=p.2/\p.2<n
def rG (n:Int):Prop:=n<0\/256<n
def Th (n:Int) (L:List (Int×Int)) (r:Value) (H:Hp):Prop:=
 (rG n/\r=.tuple #[.pointer none,.int .i64 1])\/(¬rG n/\(¬∀p∈L,l8 n p)/\r=.tuple #[.pointer none,.int .i64 2])∨
 (¬rG n/\(∀p∈L,l8 n p)/\¬AX (lP L)/\r=.tuple #[.pointer none,.int .i64 16])∨
 (¬rG n/\(∀p∈L,l8 n p)/\AX (lP L)/\∃pv,r=.tuple #[pv,.int .i64 0]/\wh H pv n.toNat (lP L))
def toN (p:Int×Int):NP:=(p.1.toNat,p.2.toNat)
theorem toN_flat {n:Int}:∀{L:List (Int×Int)},(∀p∈L,l8 n p)->(L.map toN).flatMap nE=L.flatMap pE
 |[],_=>rfl
 |p::L,h=>by
  obtain⟨h1,h2,h3,h4⟩:=h p (by simp);rw[List.map_cons,List.flatMap_cons,List.flatMap_cons,toN_flat fun q hq=>h q (by simp[hq])]
  congr 1
  simp only[nE,toN,pE,Int.toNat_of_nonneg h1,Int.toNat_of_nonneg h3]
theorem toN_rel {n:Int} {L:List (Int×Int)} (h:∀p∈L,l8 n p):Ic (L.map toN)=lP L:=by
 funext a b
 unfold Ic lP;rw[decide_eq_decide,List.mem_map]
 constructor
 ·rintro⟨p,hp,e⟩;obtain⟨h1,_,h3,_⟩:=h p hp;simp only[toN,Prod.mk.injEq]at e;have:p=((a:Int),(b:Int)):=Prod.ext (by simp;omega) (by simp;omega);rw[<-this];exact hp
 ·intro hp;exact⟨_,hp,by simp[toN]⟩
def rH (P:Program) (ι:aC) (k:FuncId):Prop:=∀(n:Int) (L:List (Int×Int)) (v:Value) (H:Hp),aU ι H->nT H v L->L.length<1000000->ak P k #[.int .i64 n,v] H fun r H'=>Th n L r H'/\af (fun _=>False) H H'/\I6 H.size H' r
theorem NV {P:Program} {ι:aC} {k:FuncId} (hk:an P k (BU ι) BV 2) (hso:nU P (ι.f 198) (ι.f 200)) (hcl:zk P (ι.f 192)) (hco:zl P (ι.f 193)) (hos:uH P (ι.f 195)) (hre:RelSpec P ι (ι.f 197)):rH P ι k:=by
 intro n L v H hT hv hn;refine ah hk (args:=[_,_]) (by simp) ?_;unfold BU BV kA kB kF kC kD ke kH kK kN kO kP kS kT kU kV kc kd kf kg kY kZ
 by_cases hn0:n<0
 ·have e1:decide (n<0)=true:=decide_eq_true hn0;simp only[go_sem,zS,↓reduceIte,Za,Zb,Zc,reduceCtorEq,ae,e1,Bool.not_true];exact⟨.inl ⟨.inl hn0,rfl⟩,af.refl _ _,I6.z _ _ _⟩
 have e1:decide (n<0)=false:=decide_eq_false hn0
 by_cases Zk:n>256
 ·have e2:decide (n>256)=true:=decide_eq_true Zk;simp only[go_sem,zS,↓reduceIte,Za,Zb,Zc,reduceCtorEq,ae,e1,e2,Bool.not_false];exact⟨.inl ⟨.inr Zk,rfl⟩,af.refl _ _,I6.z _ _ _⟩
 have e2:decide (n>256)=false:=decide_eq_false Zk;have tY:¬rG n:=by unfold rG;omega
 simp only[go_sem,zS,↓reduceIte,Za,Zb,Zc,reduceCtorEq,ae,e1,e2,Bool.not_false,hv.aq,hv.bX,hv.len];refine aP [19,7,36,4,5,18] rfl (fun m f A=>∃i:Nat,i<=L.length/\m=L.length -i/\f 18=.int .i64 i/\(∀p∈L.take i,l8 n p)/\af (fun _=>False) H A) L.length ?_ ?_
 ·exact⟨0,by omega,by omega,by simp only[go_sem,zS,↓reduceIte,Za,Zb,Zc,reduceCtorEq,ae];rfl,by simp,af.refl _ _⟩
 rintro m f H1 ⟨i,hi,rfl,hf,hok,K1⟩;have s1:=K1.size;simp only[go_sem,zS,↓reduceIte,Za,Zb,Zc,reduceCtorEq,ae]at hf;simp only[go_sem,zS,↓reduceIte,Za,Zb,Zc,reduceCtorEq,hf];refine aH (fun hlt=>?_) (fun jt=>?_)
 ·have hlt:i<L.length:=by omega
  have hv1:=hv.ai K1;obtain⟨pb,po,pc,rfl,QZ,hld⟩:=hv1.elem iX hlt;obtain⟨p,hp⟩:∃p,p=L[i]:=⟨_,rfl⟩
  rw[<-hp]at hld;have cP:aR H1 ⟨pb,po+i*2,none⟩ 2=some #[.int .i64 p.1,.int .i64 p.2]:=hld;simp only[go_sem,zS,↓reduceIte,Za,Zb,Zc,reduceCtorEq,zF,aj,aB,cP];refine⟨by omega,?_⟩;refine al fun H2 b2 e2' z2 B2 K2=>?_;have s2:=K2.size;have hst:=B2.bK (o:=0) (n:=2) (by simp);have B3:=B2.az 0 [.int .i64 p.1,.int .i64 p.2];have K3:af (fun q=>q=b2) H2 (az H2 ⟨b2,0,none⟩ [.int .i64 p.1,.int .i64 p.2]):=(af.refl _ _).az _ (.inl rfl);simp only[go_sem,zS,↓reduceIte,Za,Zb,Zc,reduceCtorEq,zF,hst];refine⟨fun x hx=>by simp at hx;rcases hx with rfl|rfl<;>rfl,?_⟩;rw[ae];generalize az H2 ⟨b2,0,none⟩ [.int .i64 p.1,.int .i64 p.2]=H3 at B3 K3⊢;have Tb:cell H3 ⟨b2,0,none⟩=some (.int .i64 p.1):=by rw[B3.cell];rfl
  have Td:cell H3 ⟨b2,1,none⟩=some (.int .i64 p.2):=by rw[B3.cell];rfl
  have vG:af (fun _=>False) H H3:=(K1.trans K2).cB K3 (by omega);have hpL:p∈L:=by rw[hp];exact List.getElem_mem _
  by_cases h1:(if p.2<p.1 then p.2 else p.1)<0
  ·have e3:decide ((if p.2<p.1 then p.2 else p.1)<0)=true:=decide_eq_true h1;simp only[go_sem,zS,↓reduceIte,Za,Zb,Zc,reduceCtorEq,ae,hf,Tb,Td,e3,Bool.not_true];refine⟨by omega,by omega,rfl,.inr (.inl ⟨tY,fun h=>?_,rfl⟩),vG,I6.z _ _ _⟩;have:=h p hpL;unfold l8 at this;split at h1<;>omega
  ·have e3:decide ((if p.2<p.1 then p.2 else p.1)<0)=false:=decide_eq_false h1
   by_cases h2:(if p.2>p.1 then p.2 else p.1)≥n
   ·have e4:decide ((if p.2>p.1 then p.2 else p.1)≥n)=true:=decide_eq_true h2;simp only[go_sem,zS,↓reduceIte,Za,Zb,Zc,reduceCtorEq,ae,hf,Tb,Td,e3,e4,Bool.not_false];refine⟨by omega,by omega,rfl,by omega,by omega,rfl,.inr (.inl ⟨tY,fun h=>?_,rfl⟩),vG,I6.z _ _ _⟩;have:=h p hpL;unfold l8 at this;split at h2<;>omega
   ·have e4:decide ((if p.2>p.1 then p.2 else p.1)≥n)=false:=decide_eq_false h2;simp only[go_sem,zS,↓reduceIte,Za,Zb,Zc,reduceCtorEq,ae,hf,Tb,Td,e3,e4,Bool.not_false];refine⟨by omega,by omega,rfl,by omega,by omega,rfl,L.length -(i+1),by omega,i+1,by omega,rfl,by rw[IntWalk.i64_in _ (by omega)];rfl,fun q hq=>?_,vG⟩;rw[List.take_succ_eq_append_getElem hlt,List.mem_append]at hq;rcases hq with hq|hq
    ·exact hok q hq
    ·simp only[List.mem_singleton]at hq;rw[<-hp]at hq;subst hq;unfold l8
     split at h1<;>split at h2<;>omega
 ·have:i=L.length:=by omega
  subst this;rw[List.take_length]at hok;have hv1:=hv.ai K1;refine aG fun H2 b2 e2' z2 B2 K2=>?_;have s2:=K2.size;simp only[go_sem,zS,↓reduceIte,Za,Zb,Zc,reduceCtorEq];have hx:bk nE 2 H2 v (L.map toN):=(hv1.ai K2).conv (by simp) (toN_flat hok);have gX:ct nE 2 H2 (.slice (some ⟨b2,0,none⟩) 0 0) []:=ct.bl B2 rfl (by omega) (by omega) (by simp);refine nS (l:=([]:List NP)) (m:=L.map toN) H.size jF Ig gX (fun q hq=>by have hq:q=b2:=hq;omega) (by omega) hx rfl (by omega) (by simp;omega) fun v3 H3 O3 own3 K3=>?_;rw[List.nil_append]at O3;have s3:=K3.size;have hR:uz n.toNat (Ic (L.map toN)):=uz.Ic fun q hq=>by
   obtain⟨p,hp,rfl⟩:=List.mem_map.1 hq;obtain⟨h1,h2,h3,h4⟩:=hok p hp;exact⟨by simp only[toN];omega,by simp only[toN];omega⟩
  have hlm:∀q∈L.map toN,q.1<256/\q.2<256:=fun q hq=>by
   obtain⟨p,hp,rfl⟩:=List.mem_map.1 hq;obtain⟨h1,h2,h3,h4⟩:=hok p hp;exact⟨by simp only[toN];omega,by simp only[toN];omega⟩
  have Ti:∀q∈L.map toN,q.1<n.toNat/\q.2<n.toNat:=fun q hq=>by
   obtain⟨p,hp,rfl⟩:=List.mem_map.1 hq;obtain⟨h1,h2,h3,h4⟩:=hok p hp;exact⟨by simp only[toN];omega,by simp only[toN];omega⟩
  simp only[go_sem,zS,↓reduceIte,Za,Zb,Zc,reduceCtorEq,ae];refine(hso _ v3 H3 O3 hlm (by simp;omega)).mono ?_;rintro r H4 ⟨rfl,⟨l',Q4,BK,O4⟩,K4⟩;have s4:=K4.size;have hl4:l'.length=L.length:=by rw[Q4.length_eq];simp
  simp only[go_sem,zS,↓reduceIte,Za,Zb,Zc,reduceCtorEq,ae];refine(hco l' v3 H4 O4 (by omega)).mono ?_;rintro r5 H5 ⟨S5,own5,K5⟩;have s5:=K5.size;rw[Ie Q4 BK Ti]at S5;simp only[go_sem,zS,↓reduceIte,Za,Zb,Zc,reduceCtorEq,ae];refine(hcl _ r5 H5 S5).mono ?_;rintro r6 H6 ⟨S6,own6,rfl⟩;obtain⟨pa,pc,rfl,hpc⟩:=S6.mk;rw[ae];simp only[go_sem,zS,↓reduceIte,Za,Zb,Zc,reduceCtorEq,zF,Ww,Wy];refine⟨by omega,?_⟩;refine al fun H7 b7 e7 z7 B7 K7=>?_;have s7:=K7.size;have Q5:((n.toNat:Nat):Int)=n:=by unfold rG at tY;omega
  have Wp:Bl H7 b7 [.int .i64 ((n.toNat:Nat):Int),.slice pa (cS n.toNat (Ic (L.map toN))).length pc,.slice none 0 0,.slice none 0 0,.slice none 0 0]:=by rw[Q5];exact B7
  have S7:=S6.ai K7;have oe:∀q,aV (.slice pa (cS n.toNat (Ic (L.map toN))).length pc) q->q≠b7:=fun q hq=>by have:=S6.bE hq;omega
  have F9:af (fun _=>False) H H6:=((K1.trans K2).nQ K3 (Nat.le_refl _)).trans' (K4.trans K5) (fun j hj h=>by have:=own3 j h;omega);simp only[go_sem,zS,↓reduceIte,Za,Zb,Zc,reduceCtorEq,ae];refine(hos n.toNat _ b7 _ _ _ H7 (by unfold rG at tY;omega) hR Wp S7 oe).mono ?_;rintro r H8 ⟨rfl,⟨sv,B8,O8,own8⟩,K8⟩;have s8:=K8.size;have Tj:af (fun _=>False) H H8:=(F9.trans K7).cB K8 (by omega);rw[toN_rel hok]at*
  by_cases hA:AX (lP L)
  ·have e:decide ((yg n.toNat (lP L)).length=n.toNat)=true:=decide_eq_true ((vv hR).2 hA);simp only[go_sem,zS,↓reduceIte,Za,Zb,Zc,reduceCtorEq,ae,e,Bool.not_true];have S8:=S7.ag K8 oe;have Az:ι.g 125≠b7:=by have:=(show Bl H (ι.g 125) _ from hT).lt;omega
   have FA:∀q,aV sv q->q≠b7:=fun q hq=>by have:=own8 q (O8.aV hq);omega
   refine(hre n.toNat _ b7 _ sv H8 (by unfold rG at tY;omega) hR hA (hT.ag Tj) Az B8 S8 oe O8.sl FA).mono ?_;rintro r H9 ⟨rfl,⟨ab,bb,avs,EV,C,B9,A9,D9,h1,h2,h3⟩,K9⟩;simp only[go_sem,zS,↓reduceIte,Za,Zb,Zc,reduceCtorEq,ae];refine⟨.inr (.inr (.inr ⟨tY,hok,hA,_,rfl,?_⟩)),Tj.cB K9 (by omega),fun v' e' he b n' Wz WA Zl Ga hv' nG=>?_⟩
   rotate_left
   ·simp only[Value.tuple.injEq,Array.mk.injEq,List.cons.injEq,and_true]at he;rw[<-he.1]at hv'
    cases hv'
    have hl:=B9.uniq nG;simp only[List.cons.injEq,Value.int.injEq,Value.slice.injEq,Option.some.injEq,Addr.mk.injEq,and_true,true_and]at hl;obtain⟨l1,l2,l3,l4,l5⟩:=hl;obtain⟨rfl,-⟩:=l3;obtain⟨rfl,-⟩:=l4;subst l5;refine⟨by omega,by omega,by omega,fun q hq=>?_,fun q hq=>?_,fun vs hvs i hi q hq=>?_⟩
    ·rw[<-l2]at hq;have:=own3 q (own5 q (own6 q hq));omega
    ·have:=own8 q (O8.aV hq);omega
    ·rcases hvs with hvs|hvs
     ·have:=hvs.uniq A9.bl;subst this;have:=A9.ge i (by omega) q hq;omega
     ·have:=hvs.uniq D9.bl;subst this;have:=D9.ge i (by omega) q hq;omega
   exact⟨by unfold rG at tY;omega,hR,hA,b7,_,sv,ab,bb,avs,EV,C,rfl,B9,S8.ag K9 oe,A9,D9,O8.sl.ag K9 FA⟩
  ·have e:decide ((yg n.toNat (lP L)).length=n.toNat)=false:=decide_eq_false fun h=>hA ((vv hR).1 h);simp only[go_sem,zS,↓reduceIte,Za,Zb,Zc,reduceCtorEq,ae,e,Bool.not_false];exact⟨.inr (.inr (.inl ⟨tY,hok,hA,rfl⟩)),Tj,I6.z _ _ _⟩
end Go.Mg
namespace Go.Mg
open Go Go.RowKit
def Ca (ι:aC):S:=
 kY [kC 2 (kZ)] (.seq (kY [kA 3 0,kV 4 (.m (.eqn .sl false (.t 3)))] (.ite (.v 4) (kY [kC 2 (kZ)] .ret) .skip)) (kY [kc 5 (.bF (ι.t 194) 2 0 []),kA 6 0,kc 7 (.app false (ι.t 194) 2 16 #[.int .i64 0,.int .i64 0] (.t 5) (.t 6)),kB 2 7] .ret))
def Cb:List RV:=[.t 2]
abbrev OO:=Option (Nat×(Nat->Nat->Bool))
def Tk (H:Hp) (v:Value):OO->Prop
 |none=>v=.pointer none
 |some o=>wh H v o.1 o.2
variable {H H':Hp} {v:Value} {n:Nat} {R:Nat->Nat->Bool}
theorem Tk.ai {o:OO} (h:Tk H v o) (hk:af (fun _=>False) H H'):Tk H' v o:=by
 cases o with
 |none=>exact h
 |some o=>exact wh.ai h hk
def EW (D:Nat) (H:Hp) (v:Value):Prop:=∀b n ab bb pv sv vs,v=.pointer (some ⟨b,0,none⟩)->Bl H b [.int .i64 ((n:Nat):Int),pv,.slice (some ⟨ab,0,none⟩) n n,.slice (some ⟨bb,0,none⟩) n n,sv]->(Bl H ab vs\/Bl H bb vs)->∀i<n,∀q,aV (vs.getD i undef) q->q<D
theorem WB {n':Nat} {pv Zl sv Ga:Value} {ab bb Wz WA:Nat} (h: [Value.int .i64 ((n:Nat):Int),pv,.slice (some ⟨ab,0,none⟩) n n,.slice (some ⟨bb,0,none⟩) n n,sv]=[.int .i64 ((n':Nat):Int),Zl,.slice (some ⟨Wz,0,none⟩) n' n',.slice (some ⟨WA,0,none⟩) n' n',Ga]):n=n'/\ab=Wz/\bb=WA:=by
 simp only[List.cons.injEq,Value.int.injEq,Value.slice.injEq,Option.some.injEq,Addr.mk.injEq,and_true,true_and]at h;exact⟨by omega,h.2.2.1.1,h.2.2.2.1.1⟩
theorem wh.db (h:wh H v n R):EW H.size H v:=by
 obtain⟨h1,h2,h3,b,pv,sv,ab,bb,avs,EV,C,rfl,g1,g2,g3,g4,g5⟩:=h;intro b' n' Wz WA Zl Ga vs e hb hv i hi q hq
 cases e
 obtain⟨rfl,rfl,rfl⟩:=WB (g1.uniq hb);rcases hv with hv|hv
 ·have:=hv.uniq g3.bl;subst this;exact(g3.at_ i hi).bE hq
 ·have:=hv.uniq g4.bl;subst this;exact(g4.at_ i hi).bE hq
theorem EW.ai {D:Nat} (h:wh H v n R) (hd:EW D H v) (hk:af (fun _=>False) H H'):EW D H' v:=by
 obtain⟨h1,h2,h3,b,pv,sv,ab,bb,avs,EV,C,rfl,g1,g2,g3,g4,g5⟩:=h;intro b' n' Wz WA Zl Ga vs e hb hv i hi q hq
 cases e
 obtain⟨rfl,rfl,rfl⟩:=WB ((hk.bl g1 (by simp)).uniq hb);rcases hv with hv|hv
 ·have:=hv.uniq (hk.bl g3.bl (by simp));subst this;exact hd b n ab bb pv sv _ rfl g1 (.inl g3.bl) i hi q hq
 ·have:=hv.uniq (hk.bl g4.bl (by simp));subst this;exact hd b n ab bb pv sv _ rfl g1 (.inr g4.bl) i hi q hq
end Go.Mg
