/- Lemmas of ours. No conditions. -/
import Derived.Test.YtkfikjdbdfekfabDoorMgTvk
import Derived.Test.YtkfikjdbdfekfabDoorMgKp
open Nat renaming reduceEqDiff→Za,reduceAdd→Zb,reduceMul→Zc
set_option linter.all false
namespace Go.Mg
open Go Go.RowKit
set_option maxRecDepth 10000
def mg (ι:bh):S:=
 kY [kC 4 (.int .u64 0)] (kY [kA 6 1,kU 7 (.ii .u64 (.t 6)),kU 8 (.bt .and .u64 (.t 7) (.c (.int .u64 63))),kB 5 8] (kY [kA 9 0,kA 10 5,kU 11 (.sh .shl .u64 (.t 9) (.t 10)),kA 12 0,kA 13 5,kU 14 (.ar .sub .u64 (.c (.int .u64 64)) (.t 13)),kU 15 (.sh .shr .u64 (.t 12) (.t 14)),kU 16 (.bt .or .u64 (.t 11) (.t 15)),kB 4 16] .ret))
def mh:List RV:=[.t 4]
def dq (ι:bh):S:=
 kY [kV 12 (.m (.ldn 24 (.c (.pointer (.some ⟨ι.g 4,0,.none⟩))))),kC 13 (.int .i64 0)] (.blk 0 (.loop (kY [kV 14 (.cm .lss .i64 (.v 13) (.c (.int .i64 24)))] (.seq (.ite (.v 14) .skip (.exit 0)) (.seq (.blk 1 (kY [kU 15 (.m (.ix 24 (.v 12) (.v 13))),kB 3 15] (kY [kd 4 (.new (ι.t 2) #[.int .u64 0,.int .u64 0,.int .u64 0,.int .u64 0,.int .u64 0])] (.seq (kY [kC 16 (.int .i64 0)] (.blk 2 (.loop (kY [kV 17 (.cm .lss .i64 (.v 16) (.c (.int .i64 5)))] (.seq (.ite (.v 17) .skip (.exit 2)) (.seq (.blk 3 (kY [kA 18 16,kB 5 18] (.reg [kA 19 5,kA 20 0,kA 21 5,kU 22 (.nil (.t 20)),kU 23 (.ia 25 1 (.t 22) (.t 21)),kD 24 23,kA 25 0,kA 26 5,kU 27 (.ar .add .i64 (.t 26) (.c (.int .i64 5))),kU 28 (.nil (.t 25)),kU 29 (.ia 25 1 (.t 28) (.t 27)),kD 30 29,kU 31 (.bt .xor .u64 (.t 24) (.t 30)),kA 32 0,kA 33 5,kU 34 (.ar .add .i64 (.t 33) (.c (.int .i64 10))),kU 35 (.nil (.t 32)),kU 36 (.ia 25 1 (.t 35) (.t 34)),kD 37 36,kU 38 (.bt .xor .u64 (.t 31) (.t 37)),kA 39 0,kA 40 5,kU 41 (.ar .add .i64 (.t 40) (.c (.int .i64 15))),kU 42 (.nil (.t 39)),kU 43 (.ia 25 1 (.t 42) (.t 41)),kD 44 43,kU 45 (.bt .xor .u64 (.t 38) (.t 44)),kA 46 0,kA 47 5,kU 48 (.ar .add .i64 (.t 47) (.c (.int .i64 20))),kU 49 (.nil (.t 46)),kU 50 (.ia 25 1 (.t 49) (.t 48)),kD 51 50,kU 52 (.bt .xor .u64 (.t 45) (.t 51)),kU 53 (.ia 5 1 (.v 4) (.t 19)),kf (.st (.t 53) (.t 52))]))) (.reg [ke 54 16,kB 16 54]))))))) (kY [kd 6 (.new (ι.t 3) (Array.replicate 25 (.int .u64 0)))] (.seq (kY [kC 55 (.int .i64 0)] (.blk 4 (.loop (kY [kV 56 (.cm .lss .i64 (.v 55) (.c (.int .i64 5)))] (.seq (.ite (.v 56) .skip (.exit 4)) (.seq (.blk 5 (kY [kA 57 55,kB 7 57] (.seq (.dr (kW 58 (.mv (.v 7)) (kW 59 (.ar .add .i64 (.t 58) (.c (.int .i64 4))) (kW 60 (.dv .rem .i64 (.t 59) (.c (.int .i64 5))) (kW 61 (.ia 5 1 (.v 4) (.t 60)) (kW 62 (.ld (.t 61)) (kW 63 (.mv (.v 7)) (kW 64 (.ar .add .i64 (.t 63) (.c (.int .i64 1))) (kW 65 (.dv .rem .i64 (.t 64) (.c (.int .i64 5))) (kW 66 (.ia 5 1 (.v 4) (.t 65)) (kW 67 (.ld (.t 66)) (ka 68 (kg (ι.f 0) [.t 67,.c (.int .i64 1)]) (kW 69 (.bt .xor .u64 (.t 62) (.t 68)) (kX 8 (.mv (.t 69)) .done)) .wnil)))))))))))) (kY [kC 70 (.int .i64 0)] (.blk 6 (.loop (kY [kV 71 (.cm .lss .i64 (.v 70) (.c (.int .i64 5)))] (.seq (.ite (.v 71) .skip (.exit 6)) (.seq (.blk 7 (kY [kA 72 70,kB 9 72] (.dr (kW 73 (.mv (.v 9)) (kW 74 (.mv (.v 7)) (kW 75 (.ar .mul .i64 (.c (.int .i64 2)) (.t 74)) (kW 76 (.mv (.v 9)) (kW 77 (.ar .mul .i64 (.c (.int .i64 3)) (.t 76)) (kW 78 (.ar .add .i64 (.t 75) (.t 77)) (kW 79 (.dv .rem .i64 (.t 78) (.c (.int .i64 5))) (kW 80 (.ar .mul .i64 (.c (.int .i64 5)) (.t 79)) (kW 81 (.ar .add .i64 (.t 73) (.t 80)) (kW 82 (.mv (.v 0)) (kW 83 (.mv (.v 7)) (kW 84 (.mv (.v 9)) (kW 85 (.ar .mul .i64 (.c (.int .i64 5)) (.t 84)) (kW 86 (.ar .add .i64 (.t 83) (.t 85)) (kW 87 (.nil (.t 82)) (kW 88 (.ia 25 1 (.t 87) (.t 86)) (kW 90 (.mv (.v 8)) (kW 92 (.mv (.v 7)) (kW 93 (.mv (.v 9)) (kW 94 (.ar .mul .i64 (.c (.int .i64 5)) (.t 93)) (kW 95 (.ar .add .i64 (.t 92) (.t 94)) (kW 96 (.ia 25 1 (.c (.pointer (.some ⟨ι.g 5,0,.none⟩))) (.t 95)) (kW 97 (.ld (.t 96)) (ka 89 (.rd (.ld (.t 88))) (kW 91 (.bt .xor .u64 (.t 89) (.t 90)) (ka 98 (kg (ι.f 0) [.t 91,.t 97]) (kW 99 (.ia 25 1 (.v 6) (.t 81)) (kb (.st (.t 99) (.t 98)) .done .wnil)) .wnil)) .wnil))))))))))))))))))))))))))) (.reg [ke 100 70,kB 70 100])))))))))) (.reg [ke 101 55,kB 55 101]))))))) (.seq (kY [kC 10 (.int .i64 0)] (.blk 8 (.loop (.seq (kY [kA 102 10,kV 103 (.cm .lss .i64 (.t 102) (.c (.int .i64 25)))] (.ite (.v 103) .skip (.exit 8))) (.seq (.blk 9 (kY [kC 106 (.int .i64 0)] (.blk 10 (.loop (kY [kV 107 (.cm .lss .i64 (.v 106) (.c (.int .i64 5)))] (.seq (.ite (.v 107) .skip (.exit 10)) (.seq (.blk 11 (kY [kA 108 106,kB 11 108] (.reg [kA 109 0,kA 110 11,kA 111 10,kU 112 (.ar .add .i64 (.t 110) (.t 111)),kA 113 11,kA 114 10,kU 115 (.ar .add .i64 (.t 113) (.t 114)),kU 116 (.ia 25 1 (.v 6) (.t 115)),kD 117 116,kA 118 11,kU 119 (.ar .add .i64 (.t 118) (.c (.int .i64 1))),kU 120 (.dv .rem .i64 (.t 119) (.c (.int .i64 5))),kA 121 10,kU 122 (.ar .add .i64 (.t 120) (.t 121)),kU 123 (.ia 25 1 (.v 6) (.t 122)),kD 124 123,kU 125 (.cpl .u64 (.t 124)),kA 126 11,kU 127 (.ar .add .i64 (.t 126) (.c (.int .i64 2))),kU 128 (.dv .rem .i64 (.t 127) (.c (.int .i64 5))),kA 129 10,kU 130 (.ar .add .i64 (.t 128) (.t 129)),kU 131 (.ia 25 1 (.v 6) (.t 130)),kD 132 131,kU 133 (.bt .and .u64 (.t 125) (.t 132)),kU 134 (.bt .xor .u64 (.t 117) (.t 133)),kU 135 (.nil (.t 109)),kU 136 (.ia 25 1 (.t 135) (.t 112)),kf (.st (.t 136) (.t 134))]))) (.reg [ke 137 106,kB 106 137])))))))) (.reg [kA 104 10,kU 105 (.ar .add .i64 (.t 104) (.c (.int .i64 5))),kB 10 105])))))) (.reg [kA 138 0,kU 139 (.nil (.t 138)),kU 140 (.ia 25 1 (.t 139) (.c (.int .i64 0))),kD 141 140,kA 142 3,kU 143 (.bt .xor .u64 (.t 141) (.t 142)),kU 144 (.nil (.t 138)),kU 145 (.ia 25 1 (.t 144) (.c (.int .i64 0))),kf (.st (.t 145) (.t 143))])))))))) (.reg [ke 146 13,kB 13 146]))))))
def dt:List RV:=[]
def j1 (P:Program) (k:FuncId):Prop:=∀(x:UInt64) (n:Nat),n<=63->∀H,ai P k #[.int .u64 x.toNat,.int .i64 n] H fun v H'=>v=.int .u64 (rotl x n).toNat/\H'=H
theorem rq (n:Nat) (hn:n<=63):bits .and .u64 (IntKind.u64.wrap (n:Int)) 63=n:=by
 have h:∀m:Fin 64,bits .and .u64 (IntKind.u64.wrap ((m.val:Nat):Int)) 63=(m.val:Int):=by decide
 exact h ⟨n,by omega⟩
theorem kE (n:Nat) (hn:n<=63):IntKind.u64.wrap (64 -(n:Int))=64 -n:=by
 rw[IntKind.wrap_u64];omega
variable {P:Program} {ι:bh} {k:FuncId}
theorem pV (hk:ah P k (mg ι) mh 2):j1 P k:=by
 intro x n hn H;refine ag hk (args:=[_,_]) (by simp) ?_;unfold mg mh kA kB kC kU kY;have h1:=rq n hn;have h2:=kE n hn;have h3:=kz x n hn;have e:(64 -(n:Int)).toNat=64 -n:=by omega
 simp only[go_sem,zS,↓reduceIte,Za,Zb,Zc,reduceCtorEq,aa,h1,h2,e,aq,h3];omega
theorem k0 (x:UInt64):bits .xor .u64 (if IntKind.u64.signed=true then-1 else IntKind.u64.max) (x.toNat:Int)=((~~~x).toNat:Int):=mf x
def eO (P:Program) (ι:bh) (k:FuncId):Prop:=∀(b:Nat) (st:List UInt64) (rest:List Value),st.length=25->∀H,Bl H b (bn st++rest)->b≠ι.g 4->b≠ι.g 5→
 Bl H (ι.g 4) (bn bm)->Bl H (ι.g 5) (bx.map fun(n:Nat)=>.int .i64 n)→
 ai P k #[.pointer (some ⟨b,0,none⟩)] H fun v H'=>v=.tuple #[]/\Bl H' b (bn (gy st)++rest)/\ae (·=b) H H'
theorem k3 (i:Nat) (h:i<25):(bx.map fun(n:Nat)=>Value.int .i64 n)[i]?=some (.int .i64 (bx.getD i 0)):=by
 have:i<bx.length:=h;simp[this]
theorem mi (i:Nat):bx.getD i 0<=63:=by
 by_cases h:i<25
 ·have:∀m:Fin 25,bx.getD m.val 0<=63:=by decide
  exact this ⟨i,h⟩
 ·rw[List.getD_eq_getElem?_getD,List.getElem?_eq_none (by simp[bx];omega)];simp
theorem pW {H:Hp} {b:Nat} {l:List Value} (h:Bl H b l) (n:Nat) (hn:n=l.length):cS H (.pointer (some ⟨b,0,none⟩)) n=some l.toArray:=by
 obtain⟨T,h⟩:=h;subst hn;simp[cS,aJ,h]
theorem jd (hk:ah P k (dq ι) dt 1) (hrot:j1 P (ι.f 0)):eO P ι k:=by
 intro b st rest hst H hb hbr hbt hR hT;refine ag hk (args:=[_]) (by simp) ?_;unfold dq dt kA kB kC kD ke kU kV kW kX ka kb kd kf kg kY;simp only[go_sem,zS,↓reduceIte,Za,Zb,Zc,reduceCtorEq,aa,pW hR 24 rfl];refine aD [14,3,4,16,17,5,6,55,56,7,8,70,71,9,10,103,106,107,11,13] rfl
  (fun n f H'=>∃k,k<=24/\n=24 -k/\f 13=.int .i64 k/\Bl H' b (bn (cC k st)++rest)/\ae (·=b) H H') 24 ⟨0,by omega,by omega,rfl,hb,ae.refl _ _⟩ ?_
 rintro n g H1 ⟨k,wG,rfl,pX,nK,iR⟩;simp only[go_sem,zS,↓reduceIte,Za,Zb,Zc,reduceCtorEq,aa]at pX;have xJ:=iR.bl hR (fun h=>hbr h.symm);have xK:=iR.bl hT (fun h=>hbt h.symm);generalize hs1:cC k st=s1 at*;have j2:s1.length=25:=by rw[<-hs1,dQ];exact hst
 simp only[go_sem,zS,↓reduceIte,Za,Zb,Zc,reduceCtorEq,aa,pX];refine au (fun hlt=>?_) (fun o8=>?_)
 ·have rr:k<24:=by omega
  refine⟨⟨by omega,by omega,by simp[aQ];exact rr⟩,?_⟩;have tC:((bn bm).toArray[k]?.getD undef)=.int .u64 (bm.getD k 0).toNat:=by
   have:=cD bm k rr;simp[this]
  simp only[tC];refine aD [17,5,16] rfl (fun n f H'=>∃x,x<=5/\n=5 -x/\f 16=.int .i64 x/\Bl H' b (bn s1++rest)/\Bl H' H1.size (bn (cN s1 x))/\ae (·=b) H H') 5
   ⟨0,by omega,by omega,rfl,nK.push _,Bl.new _ _ _,iR.push _⟩ ?_
  rintro n2 g2 H2 ⟨x,vk,rfl,nL,hb2,ru,ry⟩;simp only[go_sem,zS,↓reduceIte,Za,Zb,Zc,reduceCtorEq,aa]at nL;simp only[go_sem,zS,↓reduceIte,Za,Zb,Zc,reduceCtorEq,aa,nL];refine au (fun tD=>?_) (fun rz=>?_)
  ·have hx:x<5:=by omega
   have ga:=fun i (hi:i<25)=>bJ s1 rest i (by omega);have gc:=fun i (hi:i<5)=>cD (cN s1 x) i (by rw[jb];exact hi);simp(disch:=omega)only[go_sem,zS,↓reduceIte,Za,Zb,Zc,reduceCtorEq,aa,nL,hb2.cell,ru.cell,hb2.cE,ru.cE,ga,gc,IntWalk.i64_in,a8]
   and_intros<;>first|omega|exact ae.refl _ _|skip
   have jT:b≠Array.size H1:=by have:=nK.lt;omega
   refine⟨5 -(x+1),by omega,x+1,by omega,rfl,by simp,hb2.aZ _ jT,?_,ry.al _ (.inr iR.size)⟩;have:=ru.al x (.int .u64 (o3 s1 x).toNat);rw[j0 _ _ (by rw[jb];exact hx)]at this;exact this
  ·have hx:x=5:=by omega
   subst hx;clear rz hlt nL;have jT:b≠Array.size H1:=by have:=nK.lt;omega
   have rA:b≠Array.size H2:=by have:=hb2.lt;omega
   have tE:Array.size H1≠Array.size H2:=by have:=ru.lt;omega
   have vl:Array.size H<=Array.size H2:=ry.size;refine aD [56,7,8,70,71,9,55] rfl (fun n f H'=>∃x,x<=5/\n=5 -x/\f 55=.int .i64 x/\Bl H' b (bn s1++rest)/\Bl H' H1.size (bn (cN s1 5))/\Bl H' H2.size (bn (bX s1 (cN s1 5) x))/\ae (·=b) H H') 5
    ⟨0,by omega,by omega,rfl,hb2.push _,ru.push _,Bl.eL _ _ _,ry.push _⟩ ?_
   rintro n3 g3 H3 ⟨x,vk,rfl,nM,tF,vm,nh,pY⟩;simp only[go_sem,zS,↓reduceIte,Za,Zb,Zc,reduceCtorEq,aa]at nM;simp only[go_sem,zS,↓reduceIte,Za,Zb,Zc,reduceCtorEq,aa,nM];refine au (fun wH=>?_) (fun wI=>?_)
   ·have hx:x<5:=by omega
    refine eM (fun _=>False) ?_;have gc:=fun i (hi:i<5)=>cD (cN s1 5) i (by rw[jb];exact hi);have m1:((x:Int)+4).tmod 5=(((x+4) % 5:Nat):Int):=by rw[Int.tmod_eq_emod_of_nonneg (by omega)];omega
    have m2:((x:Int)+1).tmod 5=(((x+1) % 5:Nat):Int):=by rw[Int.tmod_eq_emod_of_nonneg (by omega)];omega
    simp(disch:=omega)only[go_sem,zS,↓reduceIte,Za,Zb,Zc,reduceCtorEq,aa,nM,tF.cell,vm.cell,nh.cell,gc,IntWalk.i64_in,a8,m1,m2,aq]
    and_intros<;>first|omega|exact ae.refl _ _|skip
    refine(hrot _ 1 (by omega) _).mono ?_;rintro v H' ⟨rfl,rfl⟩;have hd:=a8 ((cN s1 5).getD ((x+4) % 5) 0) (rotl ((cN s1 5).getD ((x+1) % 5) 0) 1);simp only[go_sem,zS,↓reduceIte,Za,Zb,Zc,reduceCtorEq,aa,hd];refine⟨ae.refl _ _,?_⟩;refine aD [71,9,70] rfl (fun n f H4=>∃y,y<=5/\n=5 -y/\f 70=.int .i64 y/\Bl H4 b (bn s1++rest)/\Bl H4 H1.size (bn (cN s1 5))/\Bl H4 H2.size (bn (bY s1 (cN s1 5) x y (bX s1 (cN s1 5) x)))/\ae (·=b) H H4) 5
     ⟨0,by omega,by omega,rfl,tF,vm,nh,pY⟩ ?_
    rintro n4 g4 H4 ⟨y,wJ,rfl,nN,qF,vn,pZ,qG⟩;simp only[go_sem,zS,↓reduceIte,Za,Zb,Zc,reduceCtorEq,aa]at nN;simp only[go_sem,zS,↓reduceIte,Za,Zb,Zc,reduceCtorEq,aa,nN];refine au (fun wK=>?_) (fun wL=>?_)
    ·have hy:y<5:=by omega
     have vo:=qG.bl hT (fun h=>hbt h.symm);refine eM (fun b=>b=H2.size) ?_;have ga:=fun i (hi:i<25)=>bJ s1 rest i (by omega);have gt:=fun i (hi:i<25)=>k3 i hi;have m3:((2:Int)*x+3*y).tmod 5=(((2*x+3*y) % 5:Nat):Int):=by rw[Int.tmod_eq_emod_of_nonneg (by omega)];omega
     have m4:((x:Int)+5*y)=((x+5*y:Nat):Int):=by omega
     have m5:((y:Int)+5*(((2*x+3*y) % 5:Nat):Int))=((y+5*((2*x+3*y) % 5):Nat):Int):=by omega
     simp(disch:=omega)only[go_sem,zS,↓reduceIte,Za,Zb,Zc,reduceCtorEq,aa,nN,qF.cell,vo.cell,ga,gt,IntWalk.i64_in,a8,m3,m4,m5,aq];have j2:=qF.lt;have dU:=hT.lt;have xL:=qG.size
     and_intros<;>first|omega|exact ae.refl _ _|skip
     refine(hrot _ _ (mi _) _).mono ?_;rintro v H' ⟨rfl,rfl⟩;simp(disch:=omega)only[go_sem,zS,↓reduceIte,Za,Zb,Zc,reduceCtorEq,aa,nN,qF.cell,vo.cell,pZ.cE,ga,gt,IntWalk.i64_in,a8,m3,m4,m5,aq];have lY:(bY s1 (cN s1 5) x y (bX s1 (cN s1 5) x)).length=25:=by rw[mc,me]
     have cc:∀i,i<25->(cell H' ⟨Array.size H2,i,none⟩).isSome=true:=fun i hi=>by rw[pZ.cell,cD _ _ (by omega)];rfl
     refine⟨ae.refl _ _,⟨by omega,by omega⟩,cc _ (by omega),(ae.refl _ _).al _ (.inl rfl),5 -(y+1),by omega,y+1,by omega,rfl,by simp,qF.aZ _ rA,vn.aZ _ tE,?_,qG.al _ (.inr vl)⟩;have:=pZ.al (y+5*((2*x+3*y) % 5)) (.int .u64 (rotl (s1.getD (x+5*y) 0^^^vj (cN s1 5) x) (bx.getD (x+5*y) 0)).toNat);rw[j0 _ _ (by omega)]at this;exact this
    ·have hy:y=5:=by omega
     subst hy;simp(disch:=omega)only[go_sem,zS,↓reduceIte,Za,Zb,Zc,reduceCtorEq,aa,nM,IntWalk.i64_in];exact⟨5 -(x+1),by omega,x+1,by omega,rfl,by simp,qF,vn,pZ,qG⟩
   ·have hx:x=5:=by omega
    subst hx;have wM:Array.size H<=Array.size H2:=vl;generalize vp:bX s1 (cN s1 5) 5=BB at*;have xM:BB.length=25:=by rw[<-vp,me]
    refine aD [103,106,107,11,10] rfl (fun n f H'=>∃y,y<=5/\n=5 -y/\f 10=.int .i64 (5*y)/\Bl H' b (bn (dV BB y s1)++rest)/\Bl H' H2.size (bn BB)/\ae (·=b) H H') 5
     ⟨0,by omega,by omega,rfl,tF,nh,pY⟩ ?_
    rintro n5 g5 H5 ⟨y,wJ,rfl,nO,sq,tG,rB⟩;simp only[go_sem,zS,↓reduceIte,Za,Zb,Zc,reduceCtorEq,aa]at nO;simp only[go_sem,zS,↓reduceIte,Za,Zb,Zc,reduceCtorEq,aa,nO];refine au (fun wO=>?_) (fun wP=>?_)
    ·have hy:y<5:=by omega
     refine aD [107,11,106] rfl (fun n f H'=>∃x,x<=5/\n=5 -x/\f 106=.int .i64 x/\Bl H' b (bn (ky BB (5*y) x (dV BB y s1))++rest)/\Bl H' H2.size (bn BB)/\ae (·=b) H H') 5
      ⟨0,by omega,by omega,rfl,sq,tG,rB⟩ ?_
     rintro n6 g6 H6 ⟨x,vk,rfl,mj,sr,ss,vq⟩;simp only[go_sem,zS,↓reduceIte,Za,Zb,Zc,reduceCtorEq,aa]at mj;simp only[go_sem,zS,↓reduceIte,Za,Zb,Zc,reduceCtorEq,aa,mj];refine au (fun wQ=>?_) (fun wR=>?_)
     ·have hx:x<5:=by omega
      have lc:(ky BB (5*y) x (dV BB y s1)).length=25:=by rw[iE,eN,j2]
      have ga:=fun i (hi:i<25)=>bJ (ky BB (5*y) x (dV BB y s1)) rest i (by omega);have gb:=fun i (hi:i<25)=>cD BB i (by omega);have m1:((x:Int)+1).tmod 5=(((x+1) % 5:Nat):Int):=by rw[Int.tmod_eq_emod_of_nonneg (by omega)];omega
      have m2:((x:Int)+2).tmod 5=(((x+2) % 5:Nat):Int):=by rw[Int.tmod_eq_emod_of_nonneg (by omega)];omega
      have m3:((x:Int)+5*y)=((x+5*y:Nat):Int):=by omega
      have m4:((((x+1) % 5:Nat):Int)+5*y)=(((x+1) % 5+5*y:Nat):Int):=by omega
      have m5:((((x+2) % 5:Nat):Int)+5*y)=(((x+2) % 5+5*y:Nat):Int):=by omega
      simp(disch:=omega)only[go_sem,zS,↓reduceIte,Za,Zb,Zc,reduceCtorEq,aa,mj,nO,sr.cell,ss.cell,sr.cE,ss.cE,ga,gb,IntWalk.i64_in,a8,iG,k0,m1,m2,m3,m4,m5,aq]
      and_intros<;>first|omega|exact ae.refl _ _|skip
      refine⟨5 -(x+1),by omega,x+1,by omega,rfl,by simp,?_,ss.aZ _ (Ne.symm rA),vq.al _ (.inl rfl)⟩;have:=sr.al (x+5*y) (.int .u64 (BB.getD (x+5*y) 0^^^(~~~BB.getD ((x+1) % 5+5*y) 0&&&BB.getD ((x+2) % 5+5*y) 0)).toNat);rw[c8 _ _ _ (by omega)]at this;exact this
     ·have hx:x=5:=by omega
      subst hx;simp(disch:=omega)only[go_sem,zS,↓reduceIte,Za,Zb,Zc,reduceCtorEq,aa,nO,IntWalk.i64_in];exact⟨5 -(y+1),by omega,y+1,by omega,rfl,by simp;omega,sr,ss,vq⟩
    ·have hy:y=5:=by omega
     subst hy;have lc:(dV BB 5 s1).length=25:=by rw[eN,j2]
     have ga:=fun i (hi:i<25)=>bJ (dV BB 5 s1) rest i (by omega);simp(disch:=omega)only[go_sem,zS,↓reduceIte,Za,Zb,Zc,reduceCtorEq,aa,pX,sq.cell,sq.cE,ga,IntWalk.i64_in,a8,aq];refine⟨by omega,by omega,24 -(k+1),by omega,k+1,by omega,rfl,by simp,?_,rB.al _ (.inl rfl)⟩;have:=sq.al 0 (.int .u64 ((dV BB 5 s1).getD 0 0^^^bm.getD k 0).toNat);rw[c8 _ _ _ (by omega)]at this;have e:cC (k+1) st=(dV BB 5 s1).set 0 ((dV BB 5 s1).getD 0 0^^^bm.getD k 0):=by
      rw[<-vp,<-hs1];rfl
     rw[e];exact this
 ·have hk:k=24:=by omega
  subst hk hs1;exact⟨nK,iR⟩
end Go.Mg
