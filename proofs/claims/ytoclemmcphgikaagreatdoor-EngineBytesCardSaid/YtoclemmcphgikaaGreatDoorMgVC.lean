/- Lemmas of ours. No conditions. -/
import Derived.Test.YtoclemmcphgikaaGreatDoorMgV9
open Bool renaming false→ZS,true→ZT
open Decidable renaming decide→ZQ
open Go renaming Value→ZR
open Go.IntKind renaming i64→ZY,u64→ZW
open Go.Value renaming agg→Z0,bool→Z5,int→Z8,pointer→Z7,slice→Z6,tuple→ZZ
open Option renaming none→ZU,some→ZV
open Bool renaming and_eq_false_iff→Wr,and_eq_true→ZJ,not_true→ZE
open Go.IntWalk renaming i64_in→ZN
open List renaming all_eq_false→V9,all_eq_true→YH,getD_eq_getElem?_getD→ZP,getElem?_eq_getElem→ZO,getElem?_set→XA,getElem_mem→ZL,getElem_of_mem→ZC,length→Y8,length_nil→Zx,mem_cons→YW,nodup_nil→WA,not_mem_nil→Zk,take_length→ZI,take_of_length_le→Zy
open Nat renaming add_zero→WB,le_refl→ZH,le_trans→Zp
open Or renaming inl→XY,inr→Yj
open Nat renaming reduceEqDiff→Za,reduceAdd→Zb,reduceMul→Zc,reduceLeDiff→Zd,reduceLT→Ze
open Int renaming reduceBEq→Zf,reduceBNe→Zg,reduceLE→Zh,reduceLT→Zi
set_option maxRecDepth 100000
set_option linter.all false
namespace Go.Mg
open Go Go.RowKit
def Ia (V:aH):S:=
 kY [kC 2 (Z8 ZY 0)] (.seq (kY [kA 5 0,kL 6 5,kV 7 (.cm .lss ZY (.t 6) (.c (Z8 ZY 1)))] (.ite (.v 7) (.reg [kU 8 (.m (.mif (V.t 67) (.c (.string ⟨#[115,108,105,99,101,115,46,77,105,110,58,32,101,109,112,116,121,32,108,105,115,116]⟩)))),kf .bad]) .skip)) (kY [kA 9 0,kU 10 (.is 1 (.t 9) (.c (Z8 ZY 0))),kD 11 10,kB 3 11] (.seq (kY [kC 4 (Z8 ZY 1)] (.blk 0 (.loop (.seq (kY [kA 12 4,kA 13 0,kL 14 13,kV 15 (.cm .lss ZY (.t 12) (.t 14))] (.ite (.v 15) .skip (.exit 0))) (.seq (.blk 1 (.reg [kA 18 3,kA 19 0,kA 20 4,kI 21 1 19 20,kD 22 21,kU 23 (.m (.mn (.t 18) (.t 22))),kB 3 23])) (.reg [kA 16 4,kU 17 (.ar .add ZY (.t 16) (.c (Z8 ZY 1))),kB 4 17])))))) (kY [kA 24 3,kB 2 24] .ret))))
def Ib:List RV:=[.t 2]
def Ic (V:aH):S:=
 kY [kC 2 (Z8 ZY 0)] (.seq (kY [kA 5 0,kL 6 5,kV 7 (.cm .lss ZY (.t 6) (.c (Z8 ZY 1)))] (.ite (.v 7) (.reg [kU 8 (.m (.mif (V.t 67) (.c (.string ⟨#[115,108,105,99,101,115,46,77,97,120,58,32,101,109,112,116,121,32,108,105,115,116]⟩)))),kf .bad]) .skip)) (kY [kA 9 0,kU 10 (.is 1 (.t 9) (.c (Z8 ZY 0))),kD 11 10,kB 3 11] (.seq (kY [kC 4 (Z8 ZY 1)] (.blk 0 (.loop (.seq (kY [kA 12 4,kA 13 0,kL 14 13,kV 15 (.cm .lss ZY (.t 12) (.t 14))] (.ite (.v 15) .skip (.exit 0))) (.seq (.blk 1 (.reg [kA 18 3,kA 19 0,kA 20 4,kI 21 1 19 20,kD 22 21,kU 23 (.m (.mx (.t 18) (.t 22))),kB 3 23])) (.reg [kA 16 4,kU 17 (.ar .add ZY (.t 16) (.c (Z8 ZY 1))),kB 4 17])))))) (kY [kA 24 3,kB 2 24] .ret))))
def Ie:List RV:=[.t 2]
def Ig (V:aH):S:=
 (kY [kM 19 5 2,kc 20 (kg (V.f 312) [.t 19]),kU 21 (.not (.t 20)),kF 22 21,kT 23 22 ZS (.ld (.v 3)),kT 24 22 ZS (.m (.lenl (.t 23))),kT 25 22 ZS (.fa 0 (.v 2)),kT 26 22 ZS (.ld (.t 25)),kT 27 22 ZS (.m (.lenl (.t 26))),kT 28 22 ZS (.cm .neq ZY (.t 24) (.t 27)),kU 29 (.pick (.t 22) (.c (Z5 ZT)) (.t 28)),kF 30 29,kT 31 30 ZS (.ld (.v 3)),.ge (.t 32) (.t 30) ZS (kg (V.f 316) [.t 31]),kT 33 30 ZS (.cm .lss ZY (.t 32) (.c (Z8 ZY 0))),kU 34 (.pick (.t 30) (.c (Z5 ZT)) (.t 33)),kF 35 34,kT 36 35 ZS (.ld (.v 3)),.ge (.t 37) (.t 35) ZS (kg (V.f 317) [.t 36]),kT 38 35 ZS (.cm .gtr ZY (.t 37) (.c (Z8 ZY 256))),kV 39 (.pick (.t 35) (.c (Z5 ZT)) (.t 38))] (.ite (.v 39) (kY [kU 40 (.m (.bld #[Z8 ZY 0,Z8 ZY 0] [])),kf (.stn 2 (.v 4) (.t 40)),kf (.st (.v 5) (.c (Z5 ZS)))] .ret) .skip))
def Ih (V:aH):S:=
 (kY [kU 49 (.ld (.v 3)),kP 50 2 1 7 0,kD 51 50,kI 52 1 49 51,kD 53 52,kU 54 (.ld (.v 3)),kP 55 2 1 7 1,kD 56 55,kI 57 1 54 56,kD 58 57,kB 8 53,kB 9 58] (kY [kA 59 8,kU 60 (.cm .neq ZY (.t 59) (.c (Z8 ZY 0))),kF 61 60,kS 62 61 ZT 8,kS 63 61 ZT 9,kT 64 61 ZT (.cm .eql ZY (.t 62) (.t 63)),kV 65 (.pick (.t 61) (.t 64) (.c (Z5 ZS)))] (.ite (.v 65) (kY [kA 66 6,kU 67 (.m (.bld #[Z8 ZY 0,Z8 ZY 0] [(0,(1,.c (Z8 ZY 1))),(1,(1,.t 66))])),kf (.stn 2 (.v 4) (.t 67)),kf (.st (.v 5) (.c (Z5 ZS)))] .ret) .skip)))
def Ii (V:aH):S:=
 (kY [kU 77 (.ld (.v 3)),kP 78 2 1 11 0,kD 79 78,kI 80 1 77 79,kD 81 80,kU 82 (.ld (.v 3)),kP 83 2 1 11 1,kD 84 83,kI 85 1 82 84,kD 86 85,kB 12 81,kB 13 86] (kY [kA 87 12,kU 88 (.cm .neq ZY (.t 87) (.c (Z8 ZY 0))),kF 89 88,kS 90 89 ZT 13,kT 91 89 ZT (.cm .neq ZY (.t 90) (.c (Z8 ZY 0))),kJ 92 89 91,kF 93 92,kS 94 93 ZT 12,kS 95 93 ZT 13,kT 96 93 ZT (.cm .neq ZY (.t 94) (.t 95)),kV 97 (.pick (.t 93) (.t 96) (.c (Z5 ZS)))] (.ite (.v 97) (kY [kA 98 10,kU 99 (.m (.bld #[Z8 ZY 0,Z8 ZY 0] [(0,(1,.c (Z8 ZY 2))),(1,(1,.t 98))])),kf (.stn 2 (.v 4) (.t 99)),kf (.st (.v 5) (.c (Z5 ZS)))] .ret) .skip)))
def Ij (V:aH):S:=
 (.blk 7 (kY [kU 113 (.ld (.v 3)),kA 114 17,kI 115 1 113 114,kD 116 115,kB 18 116] (kY [kA 117 18,kV 118 (.cm .neq ZY (.t 117) (.c (Z8 ZY 0)))] (.ite (.v 118) (kY [kA 119 18,kU 120 (.ia 257 1 (.v 16) (.t 119)),kD 121 120,kU 122 (.ar .add ZY (.t 121) (.c (Z8 ZY 1))),kU 123 (.ia 257 1 (.v 16) (.t 119)),kf (.st (.t 123) (.t 122))] (.seq (.dr (kW 124 (.mv (.v 18)) (kW 125 (.ia 257 1 (.v 16) (.t 124)) (kW 126 (.ld (.t 125)) (kW 127 (.fa 0 (.v 15)) (kW 128 (.ld (.t 127)) (kX 129 (.cm .gtr ZY (.t 126) (.t 128)) .done))))))) (.ite (.v 129) (kY [kU 130 (.ld (.v 14)),kU 131 (.m (.bld #[Z8 ZY 0,Z8 ZY 0] [(0,(1,.c (Z8 ZY 3))),(1,(1,.t 130))])),kf (.stn 2 (.v 4) (.t 131)),kf (.st (.v 5) (.c (Z5 ZS)))] .ret) .skip))) .skip))))
def Ik (V:aH):S:=
 (kY [kd 16 (.new (V.t 319) (Array.replicate 257 (Z8 ZY 0)))] (kY [kG 109 1 15,kN 110 1 109,kd 111 (kg (V.f 137) [.t 110])] (.blk 6 (.rf 134 (.v 111) 112 17 (Ij V)))))
def Il (V:aH):S:=
 kY [kR 2 (V.t 296) 0,kR 3 (V.t 138) 1,kd 4 (.new (V.t 318) #[Z8 ZY 0,Z8 ZY 0]),kd 5 (.new (V.t 151) #[Z5 ZS])] (.seq (Ig V) (.seq (kY [kG 41 2 2,kV 42 (.ld (.t 41)),kO 43 42,kC 44 (Z8 ZY 0)] (.blk 0 (.loop (kY [kH 45 44 43] (.seq (.ite (.v 45) .skip (.exit 0)) (.seq (.blk 1 (kY [kA 46 44,kK 47 2 42 44,kN 48 2 47,kd 7 (.new (V.t 194) #[Z8 ZY 0,Z8 ZY 0]),kB 6 46,kf (.stn 2 (.v 7) (.t 48))] (Ih V))) (.reg [ke 68 44,kB 44 68]))))))) (.seq (kY [kG 69 3 2,kV 70 (.ld (.t 69)),kO 71 70,kC 72 (Z8 ZY 0)] (.blk 2 (.loop (kY [kH 73 72 71] (.seq (.ite (.v 73) .skip (.exit 2)) (.seq (.blk 3 (kY [kA 74 72,kK 75 2 70 72,kN 76 2 75,kd 11 (.new (V.t 194) #[Z8 ZY 0,Z8 ZY 0]),kB 10 74,kf (.stn 2 (.v 11) (.t 76))] (Ii V))) (.reg [ke 100 72,kB 72 100]))))))) (.seq (kY [kG 101 4 2,kV 102 (.ld (.t 101)),kO 103 102,kC 104 (Z8 ZY 0)] (.blk 4 (.loop (kY [kH 105 104 103] (.seq (.ite (.v 105) .skip (.exit 4)) (.seq (.blk 5 (kY [kA 106 104,kK 107 2 102 104,kN 108 2 107,kd 14 (.new (V.t 26) #[Z8 ZY 0]),kd 15 (.new (V.t 298) #[Z8 ZY 0,kZ]),kf (.st (.v 14) (.t 106)),kf (.stn 2 (.v 15) (.t 108))] (Ik V))) (.reg [ke 132 104,kB 104 132]))))))) (kY [kU 133 (.m (.bld #[Z8 ZY 0,Z8 ZY 0] [])),kf (.stn 2 (.v 4) (.t 133)),kf (.st (.v 5) (.c (Z5 ZT)))] .ret)))))
def Im:List RV:=[.cn 4 2,.c1 5]
def Bv (P:Program) (k:FuncId):Prop:=∀(l:List Int) (v:ZR) (H:Hp),aP H v (iL l)->l≠[]->l.length<=1000->an P k #[v] H fun r H'=>(∃m,r=Z8 ZY m/\(m<0↔∃u∈l,u<0))/\H'=H
def Bw (P:Program) (k:FuncId):Prop:=∀(l:List Int) (v:ZR) (H:Hp),aP H v (iL l)->l≠[]->l.length<=1000->an P k #[v] H fun r H'=>(∃m,r=Z8 ZY m/\(256<m↔∃u∈l,256<u))/\H'=H
variable {P:Program} {V:aH} {k:FuncId} {A:Hp} {sv Rn UH c5 mv:ZR} {st s:List Int} {f:Fr} {b3 b4 b5 b7 i n b14 b15 bp:Nat} {x:fC} {Qb:Ex->Fr->Hp->Prop} {K u:Int} {m:UInt64} {α:Type}
def abn (hk:ak P k (Ia V) Ib 1):Bv P k:=by
 intro l v H hv hne hl;refine qI fun Q hQ=>?_;refine ah hk (args:=[_]) (by simp) ?_;unfold Ia Ib kA kB kC kD kI kL kU kV kf kY;have hlp:0<l.length:=List.length_pos_iff.2 hne;obtain⟨b,o,c,hve,hc,hcell⟩:=hv.cells (by simpa[iL]using hne);rw[aA]at hve hcell;have hci:∀i,i<l.length->cell H ⟨b,o+i,ZU⟩=ZV (Z8 ZY (l.getD i 0)):=fun i hi=>by rw[hcell i hi,dM _ _ hi]
 have c0:=hci 0 hlp;rw[WB]at c0;have d1:ZQ ((l.length:Int)<1)=ZS:=decide_eq_false (by omega);simp only[go_sem,Za,Zb,ae,hve,d1,c0];refine⟨by omega,?_⟩;refine aT [15,3,4] rfl (fun m f A=>∃(i:Nat) (x:Int),1<=i/\i<=l.length/\m=l.length -i/\f 4=Z8 ZY (i:Int)/\f 3=Z8 ZY x/\(x<0↔∃j<i,l.getD j 0<0)/\A=H) (l.length -1) ?_ ?_
 ·exact⟨1,l.getD 0 0,by omega,hlp,rfl,by simp only[go_sem,Za,Zb,ae],by simp only[go_sem,Za,Zb,ae],⟨fun h=>⟨0,by omega,h⟩,fun⟨j,hj,h⟩=>by rw[show j=0 by omega]at h;exact h⟩,rfl⟩
 rintro m f A ⟨i,x,h1,hi,rfl,f4,f3,hx,rfl⟩;simp only[go_sem,Za,Zb,ae]at f4 f3;simp only[go_sem,Za,Zb,ae,f4];refine aN (fun hlt=>?_) (fun ki=>?_)
 ·have hlt:i<l.length:=by omega
  simp-implicitDefEqProofs (disch:=omega)only[go_sem,Za,Zb,ae,f3,f4,al,hci i hlt,kindOf,ZN];refine⟨by omega,l.length -(i+1),by omega,i+1,_,by omega,by omega,rfl,rfl,rfl,?_⟩
  constructor
  ·intro h
   split at h
   ·exact⟨i,by omega,h⟩
   ·obtain⟨j,hj,hh⟩:=hx.1 h;exact⟨j,by omega,hh⟩
  ·rintro⟨j,hj,hh⟩
   by_cases e:j=i
   ·subst e;split<;>omega
   ·have:=hx.2 ⟨j,by omega,hh⟩
    split<;>omega
 ·have:i=l.length:=by omega
  subst this;simp only[go_sem,Za,Zb,ae,f3];rw[hQ];refine⟨⟨x,rfl,hx.trans ⟨?_,?_⟩⟩,rfl⟩
  ·rintro⟨j,hj,h⟩;rw[ZP,ZO hj]at h;exact⟨_,ZL hj,h⟩
  ·rintro⟨u,hu,h⟩;obtain⟨j,hj,rfl⟩:=ZC hu;exact⟨j,hj,by rw[ZP,ZO hj];exact h⟩
def abo (hk:ak P k (Ic V) Ie 1):Bw P k:=by
 intro l v H hv hne hl;refine qI fun Q hQ=>?_;refine ah hk (args:=[_]) (by simp) ?_;unfold Ic Ie kA kB kC kD kI kL kU kV kf kY;have hlp:0<l.length:=List.length_pos_iff.2 hne;obtain⟨b,o,c,hve,hc,hcell⟩:=hv.cells (by simpa[iL]using hne);rw[aA]at hve hcell;have hci:∀i,i<l.length->cell H ⟨b,o+i,ZU⟩=ZV (Z8 ZY (l.getD i 0)):=fun i hi=>by rw[hcell i hi,dM _ _ hi]
 have c0:=hci 0 hlp;rw[WB]at c0;have d1:ZQ ((l.length:Int)<1)=ZS:=decide_eq_false (by omega);simp only[go_sem,Za,Zb,ae,hve,d1,c0];refine⟨by omega,?_⟩;refine aT [15,3,4] rfl (fun m f A=>∃(i:Nat) (x:Int),1<=i/\i<=l.length/\m=l.length -i/\f 4=Z8 ZY (i:Int)/\f 3=Z8 ZY x/\(256<x↔∃j<i,256<l.getD j 0)/\A=H) (l.length -1) ?_ ?_
 ·exact⟨1,l.getD 0 0,by omega,hlp,rfl,by simp only[go_sem,Za,Zb,ae],by simp only[go_sem,Za,Zb,ae],⟨fun h=>⟨0,by omega,h⟩,fun⟨j,hj,h⟩=>by rw[show j=0 by omega]at h;exact h⟩,rfl⟩
 rintro m f A ⟨i,x,h1,hi,rfl,f4,f3,hx,rfl⟩;simp only[go_sem,Za,Zb,ae]at f4 f3;simp only[go_sem,Za,Zb,ae,f4];refine aN (fun hlt=>?_) (fun ki=>?_)
 ·have hlt:i<l.length:=by omega
  simp-implicitDefEqProofs (disch:=omega)only[go_sem,Za,Zb,ae,f3,f4,al,hci i hlt,kindOf,ZN];refine⟨by omega,l.length -(i+1),by omega,i+1,_,by omega,by omega,rfl,rfl,rfl,?_⟩
  constructor
  ·intro h
   split at h
   ·exact⟨i,by omega,h⟩
   ·obtain⟨j,hj,hh⟩:=hx.1 h;exact⟨j,by omega,hh⟩
  ·rintro⟨j,hj,hh⟩
   by_cases e:j=i
   ·subst e;split<;>omega
   ·have:=hx.2 ⟨j,by omega,hh⟩
    split<;>omega
 ·have:i=l.length:=by omega
  subst this;simp only[go_sem,Za,Zb,ae,f3];rw[hQ];refine⟨⟨x,rfl,hx.trans ⟨?_,?_⟩⟩,rfl⟩
  ·rintro⟨j,hj,h⟩;rw[ZP,ZO hj]at h;exact⟨_,ZL hj,h⟩
  ·rintro⟨u,hu,h⟩;obtain⟨j,hj,rfl⟩:=ZC hu;exact⟨j,hj,by rw[ZP,ZO hj];exact h⟩
def bU (hs:aP A sv (iL st)) {a:Int} (h0:0<=a) (h1:a<st.length):∃b o c,sv=Z6 (ZV ⟨b,o,ZU⟩) st.length c/\cell A ⟨b,o+a.toNat,ZU⟩=ZV (Z8 ZY (sI st a)):=by
 obtain⟨b,o,c,hve,hc,hcell⟩:=hs.cells (by intro e;have:=aA st;rw[e]at this;simp at this;omega);rw[aA]at hve hcell;exact⟨b,o,c,hve,by rw[hcell _ (by omega),dM _ _ (by omega)];rfl⟩
def abp (h3:f 3=Z7 (ZV ⟨b3,0,ZU⟩)) (h4:f 4=Z7 (ZV ⟨b4,0,ZU⟩)) (h5:f 5=Z7 (ZV ⟨b5,0,ZU⟩)) (h6:f 6=Z8 ZY (i:Int)) (h7:f 7=Z7 (ZV ⟨b7,0,ZU⟩))
  (B3:Bl A b3 [sv]) (B4:Bl A b4 [Rn,UH]) (B5:Bl A b5 [c5]) (h45:b4≠b5) (B7:Bl A b7 (pE x)) (hs:aP A sv (iL st)) (hn:st.length=n) (hx:kj (n:Int) x)
  (hT:gC st x=ZT->∀f' A',(∀j,j∉[8,9,65]->f' j=f j)->Bl A' b4 [Z8 ZY 1,Z8 ZY (i:Int)]->Bl A' b5 [Z5 ZS]->af (fun q=>q=b4\/q=b5) A A'->Qb .r f' A') (hF:gC st x=ZS->∀f',(∀j,j∉[8,9,65]->f' j=f j)->Qb .n f' A):vc P (Ih V) Qb f A:=by
 unfold Ih kA kB kF kD kI kP kS kT kU kV kf kY;obtain⟨x1,x2,x3,x4⟩:=hx;have c3:cell A ⟨b3,0,ZU⟩=ZV sv:=by rw[B3.cell];rfl
 have uf:cell A ⟨b7,0,ZU⟩=ZV (Z8 ZY x.1):=by rw[B7.cell];rfl
 have ug:cell A ⟨b7,1,ZU⟩=ZV (Z8 ZY x.2):=by rw[B7.cell];rfl
 obtain⟨sb,so,sc,rfl,k1⟩:=bU hs x1 (by omega);obtain⟨sb',so',sc',e,k2⟩:=bU hs x3 (by omega);simp only[Value.slice.injEq,Option.some.injEq,Addr.mk.injEq,true_and,and_true]at e;obtain⟨⟨rfl,rfl⟩,rfl⟩:=e;have ai:∀(u w z:ZR),∀j,j∉[8,9,65]->bR (bR (bR f 8 u) 9 w) 65 z j=f j:=fun u w z j hj=>by
  simp only[YW,Zk,or_false,not_or]at hj;simp only[bR,hj.1,hj.2.1,hj.2.2,if_false]
 have t4:=B4.bG (o:=0) (n:=2) (by simp);have tU:=B4.aB 0 [Z8 ZY 1,Z8 ZY (i:Int)];have k4:af (fun q=>q=b4) A (aB A ⟨b4,0,ZU⟩ [Z8 ZY 1,Z8 ZY (i:Int)]):=(af.refl _ _).aB _ (.inl rfl);have Av:=k4.bl B5 (fun e=>h45 e.symm);have t5:=Av.bw (o:=0) (by simp);have UI:=Av.az 0 (Z5 ZS);have k5:af (fun q=>q=b5) (aB A ⟨b4,0,ZU⟩ [Z8 ZY 1,Z8 ZY (i:Int)]) (az (aB A ⟨b4,0,ZU⟩ [Z8 ZY 1,Z8 ZY (i:Int)]) ⟨b5,0,ZU⟩ (Z5 ZS)):=(af.refl _ _).az _ (.inl rfl);have yb:=k5.bl tU h45;have kk:=(k4.mono fun q _ e=>XY (b:=q=b5) e).trans (k5.mono fun q _ e=>Yj (a:=q=b4) e);have ha:bM #[Value.int ZY 1,Value.int ZY (i:Int)]:=aU rfl
 by_cases e1:sI st x.1=0
 ·have d1:(sI st x.1 !=0)=ZS:=by rw[e1];rfl
  simp-implicitDefEqProofs only[go_sem,↓reduceIte,Za,Zb,Zc,reduceCtorEq,ae,Zf,Zg,Zh,Zi,Zd,Ze,h3,h7,c3,uf,ug,k1,k2,d1];refine⟨by omega,by omega,hF ?_ _ (ai _ _ _)⟩;simp[gC,e1]
 have d1:(sI st x.1 !=0)=ZT:=bne_iff_ne.2 e1
 by_cases e2:sI st x.1=sI st x.2
 ·have d2:(sI st x.1==sI st x.2)=ZT:=by rw[e2];simp
  simp-implicitDefEqProofs only[go_sem,↓reduceIte,Za,Zb,Zc,reduceCtorEq,ae,Zf,Zg,Zh,Zi,Zd,Ze,h3,h4,h5,h6,h7,c3,uf,ug,k1,k2,d1,d2,t4,t5];refine⟨by omega,by omega,ha,?_⟩;refine hT ?_ _ _ (ai _ _ _) yb UI kk;simp only[gC,ZJ,decide_eq_true_eq];exact⟨e1,e2⟩
 ·have d2:(sI st x.1==sI st x.2)=ZS:=by simp[e2]
  simp-implicitDefEqProofs only[go_sem,↓reduceIte,Za,Zb,Zc,reduceCtorEq,ae,Zf,Zg,Zh,Zi,Zd,Ze,h3,h7,c3,uf,ug,k1,k2,d1,d2];refine⟨by omega,by omega,hF ?_ _ (ai _ _ _)⟩;simp[gC,e2]
def abq (h3:f 3=Z7 (ZV ⟨b3,0,ZU⟩)) (h4:f 4=Z7 (ZV ⟨b4,0,ZU⟩)) (h5:f 5=Z7 (ZV ⟨b5,0,ZU⟩)) (h6:f 10=Z8 ZY (i:Int)) (h7:f 11=Z7 (ZV ⟨b7,0,ZU⟩))
  (B3:Bl A b3 [sv]) (B4:Bl A b4 [Rn,UH]) (B5:Bl A b5 [c5]) (h45:b4≠b5) (B7:Bl A b7 (pE x)) (hs:aP A sv (iL st)) (hn:st.length=n) (hx:kj (n:Int) x)
  (hT:fq st x=ZT->∀f' A',(∀j,j∉[12,13,97]->f' j=f j)->Bl A' b4 [Z8 ZY 2,Z8 ZY (i:Int)]->Bl A' b5 [Z5 ZS]->af (fun q=>q=b4\/q=b5) A A'->Qb .r f' A') (hF:fq st x=ZS->∀f',(∀j,j∉[12,13,97]->f' j=f j)->Qb .n f' A):vc P (Ii V) Qb f A:=by
 unfold Ii kA kB kF kD kI kJ kP kS kT kU kV kf kY;obtain⟨x1,x2,x3,x4⟩:=hx;have c3:cell A ⟨b3,0,ZU⟩=ZV sv:=by rw[B3.cell];rfl
 have uf:cell A ⟨b7,0,ZU⟩=ZV (Z8 ZY x.1):=by rw[B7.cell];rfl
 have ug:cell A ⟨b7,1,ZU⟩=ZV (Z8 ZY x.2):=by rw[B7.cell];rfl
 obtain⟨sb,so,sc,rfl,k1⟩:=bU hs x1 (by omega);obtain⟨sb',so',sc',e,k2⟩:=bU hs x3 (by omega);simp only[Value.slice.injEq,Option.some.injEq,Addr.mk.injEq,true_and,and_true]at e;obtain⟨⟨rfl,rfl⟩,rfl⟩:=e;have ai:∀(u w z:ZR),∀j,j∉[12,13,97]->bR (bR (bR f 12 u) 13 w) 97 z j=f j:=fun u w z j hj=>by
  simp only[YW,Zk,or_false,not_or]at hj;simp only[bR,hj.1,hj.2.1,hj.2.2,if_false]
 have t4:=B4.bG (o:=0) (n:=2) (by simp);have tU:=B4.aB 0 [Z8 ZY 2,Z8 ZY (i:Int)];have k4:af (fun q=>q=b4) A (aB A ⟨b4,0,ZU⟩ [Z8 ZY 2,Z8 ZY (i:Int)]):=(af.refl _ _).aB _ (.inl rfl);have Av:=k4.bl B5 (fun e=>h45 e.symm);have t5:=Av.bw (o:=0) (by simp);have UI:=Av.az 0 (Z5 ZS);have k5:af (fun q=>q=b5) (aB A ⟨b4,0,ZU⟩ [Z8 ZY 2,Z8 ZY (i:Int)]) (az (aB A ⟨b4,0,ZU⟩ [Z8 ZY 2,Z8 ZY (i:Int)]) ⟨b5,0,ZU⟩ (Z5 ZS)):=(af.refl _ _).az _ (.inl rfl);have yb:=k5.bl tU h45;have kk:=(k4.mono fun q _ e=>XY (b:=q=b5) e).trans (k5.mono fun q _ e=>Yj (a:=q=b4) e);have ha:bM #[Value.int ZY 2,Value.int ZY (i:Int)]:=aU rfl
 by_cases e1:sI st x.1=0
 ·have d1:(sI st x.1 !=0)=ZS:=by rw[e1];rfl
  simp-implicitDefEqProofs only[go_sem,↓reduceIte,Za,Zb,Zc,reduceCtorEq,ae,Zf,Zg,Zh,Zi,Zd,Ze,h3,h7,c3,uf,ug,k1,k2,d1];refine⟨by omega,by omega,hF ?_ _ (ai _ _ _)⟩;simp[fq,e1]
 have d1:(sI st x.1 !=0)=ZT:=bne_iff_ne.2 e1
 by_cases e0:sI st x.2=0
 ·have d0:(sI st x.2 !=0)=ZS:=by rw[e0];rfl
  simp-implicitDefEqProofs only[go_sem,↓reduceIte,Za,Zb,Zc,reduceCtorEq,ae,Zf,Zg,Zh,Zi,Zd,Ze,h3,h7,c3,uf,ug,k1,k2,d1,d0];refine⟨by omega,by omega,hF ?_ _ (ai _ _ _)⟩;simp[fq,e0]
 have d0:(sI st x.2 !=0)=ZT:=bne_iff_ne.2 e0
 by_cases e2:sI st x.1=sI st x.2
 ·have d2:(sI st x.1 !=sI st x.2)=ZS:=by rw[e2];simp
  simp-implicitDefEqProofs only[go_sem,↓reduceIte,Za,Zb,Zc,reduceCtorEq,ae,Zf,Zg,Zh,Zi,Zd,Ze,h3,h7,c3,uf,ug,k1,k2,d1,d0,d2];refine⟨by omega,by omega,hF ?_ _ (ai _ _ _)⟩;simp[fq,e2]
 ·have d2:(sI st x.1 !=sI st x.2)=ZT:=bne_iff_ne.2 e2;simp-implicitDefEqProofs only[go_sem,↓reduceIte,Za,Zb,Zc,reduceCtorEq,ae,Zf,Zg,Zh,Zi,Zd,Ze,h3,h4,h5,h6,h7,c3,uf,ug,k1,k2,d1,d0,d2,t4,t5];refine⟨by omega,by omega,ha,?_⟩;refine hT ?_ _ _ (ai _ _ _) yb UI kk;simp only[fq,ZJ,decide_eq_true_eq];exact⟨⟨e1,e0⟩,e2⟩
def abr {E9 kk:Nat} {T:List Int} (h3:f 3=Z7 (ZV ⟨b3,0,ZU⟩)) (h4:f 4=Z7 (ZV ⟨b4,0,ZU⟩)) (h5:f 5=Z7 (ZV ⟨b5,0,ZU⟩)) (h14:f 14=Z7 (ZV ⟨b14,0,ZU⟩)) (h15:f 15=Z7 (ZV ⟨b15,0,ZU⟩)) (h16:f 16=Z7 (ZV ⟨E9,0,ZU⟩)) (h17:f 17=Z8 ZY (kk:Int))
  (B3:Bl A b3 [sv]) (B4:Bl A b4 [Rn,UH]) (B5:Bl A b5 [c5]) (h45:b4≠b5) (yk:Bl A b14 [Z8 ZY (i:Int)]) (GB:Bl A b15 [Z8 ZY K,mv]) (B16:Bl A E9 (iL T)) (d4:b4≠E9) (d5:b5≠E9) (d14:b14≠E9) (d15:b15≠E9) (hs:aP A sv (iL st)) (hkk:kk<st.length) (hT:T.length=257) (hu0:0<=st.getD kk 0) (hu1:st.getD kk 0<=256)
  (hb0:0<=T.getD (st.getD kk 0).toNat 0) (hb1:T.getD (st.getD kk 0).toNat 0<=10000)
  (hR:st.getD kk 0≠0->K<T.getD (st.getD kk 0).toNat 0+1->∀f' A',Bl A' b4 [Z8 ZY 3,Z8 ZY (i:Int)]->Bl A' b5 [Z5 ZS]->af (fun q=>q=b4\/q=b5\/q=E9) A A'->Qb .r f' A')
  (hN:st.getD kk 0≠0->¬K<T.getD (st.getD kk 0).toNat 0+1->∀f' A',Bl A' E9 (iL (T.set (st.getD kk 0).toNat (T.getD (st.getD kk 0).toNat 0+1)))->af (fun q=>q=E9) A A'->Qb .n f' A')
  (h0:st.getD kk 0=0->∀f',Qb .n f' A):vc P (Ij V) Qb f A:=by
 unfold Ij kA kB kD kI kU kV kW kX kf kY;have c3:cell A ⟨b3,0,ZU⟩=ZV sv:=by rw[B3.cell];rfl
 obtain⟨sb,so,sc,rfl,k1⟩:=bU (a:=(kk:Int)) hs (by omega) (by omega);have hsi:sI st (kk:Int)=st.getD kk 0:=rfl;rw[hsi,Int.toNat_natCast]at k1;obtain⟨u,hu⟩:∃u,u=st.getD kk 0:=⟨_,rfl⟩
 rw[<-hu]at k1 hu0 hu1 hb0 hb1 hR hN h0
 by_cases e1:u=0
 ·have d1:(u !=0)=ZS:=by rw[e1];rfl
  simp only[go_sem,Za,Zb,ae,h3,h17,c3,al,k1,d1];exact⟨by omega,h0 e1 _⟩
 have d1:(u !=0)=ZT:=bne_iff_ne.2 e1;have hul:u.toNat<T.length:=by omega
 have cu:cell A ⟨E9,u.toNat,ZU⟩=ZV (Z8 ZY (T.getD u.toNat 0)):=by rw[B16.cell,dM _ _ hul]
 have w1:IntKind.i64.wrap (T.getD u.toNat 0+1)=T.getD u.toNat 0+1:=ZN _ (by omega);have tu:=B16.bw (o:=u.toNat) (by rw[aA];exact hul);have Bu:=B16.az u.toNat (Z8 ZY (T.getD u.toNat 0+1));rw[mq]at Bu;have ku:af (fun q=>q=E9) A (az A ⟨E9,u.toNat,ZU⟩ (Z8 ZY (T.getD u.toNat 0+1))):=(af.refl _ _).az _ (.inl rfl);have afQ:0<=u/\u<((257:Nat):Int):=by omega
 simp only[go_sem,Za,Zb,ae,h3,h16,h17,c3,al,k1,d1,cu,w1,tu,afQ];refine⟨by omega,by omega,by omega,?_⟩;generalize az A ⟨E9,u.toNat,ZU⟩ (Z8 ZY (T.getD u.toNat 0+1))=A1 at Bu ku⊢;have afR:=ku.bl GB d15;have GQ:=ku.bl yk d14;have tU:=ku.bl B4 d4;have Av:=ku.bl B5 d5;have cu1:cell A1 ⟨E9,u.toNat,ZU⟩=ZV (Z8 ZY (T.getD u.toNat 0+1)):=by
  rw[Bu.cell,dM _ _ (by simpa using hul),ZP,List.getElem?_set_self hul];rfl
 have c15:cell A1 ⟨b15,0,ZU⟩=ZV (Z8 ZY K):=by rw[afR.cell];rfl
 have c14:cell A1 ⟨b14,0,ZU⟩=ZV (Z8 ZY (i:Int)):=by rw[GQ.cell];rfl
 refine aZ (fun _=>False) ?_
 by_cases e2:T.getD u.toNat 0+1>K
 ·have d2:ZQ (T.getD u.toNat 0+1>K)=ZT:=decide_eq_true e2;have t4:=tU.bG (o:=0) (n:=2) (by simp);have B4w:=tU.aB 0 [Z8 ZY 3,Z8 ZY (i:Int)];have k4:af (fun q=>q=b4) A1 (aB A1 ⟨b4,0,ZU⟩ [Z8 ZY 3,Z8 ZY (i:Int)]):=(af.refl _ _).aB _ (.inl rfl);have ahS:=k4.bl Av (fun e=>h45 e.symm);have t5:=ahS.bw (o:=0) (by simp);have UI:=ahS.az 0 (Z5 ZS);have k5:af (fun q=>q=b5) (aB A1 ⟨b4,0,ZU⟩ [Z8 ZY 3,Z8 ZY (i:Int)]) (az (aB A1 ⟨b4,0,ZU⟩ [Z8 ZY 3,Z8 ZY (i:Int)]) ⟨b5,0,ZU⟩ (Z5 ZS)):=(af.refl _ _).az _ (.inl rfl);have yb:=k5.bl B4w h45;have ha:bM #[Value.int ZY 3,Value.int ZY (i:Int)]:=aU rfl;simp-implicitDefEqProofs only[go_sem,↓reduceIte,Za,Zb,Zc,reduceCtorEq,ae,Zf,Zg,Zh,Zi,Zd,Ze,h4,h5,h14,h15,h16,cu1,c14,c15,afQ,d2,t4,t5];exact⟨by omega,ha,hR e1 (by omega) _ _ yb UI ((ku.mono fun q _ e=>.inr (.inr e)).trans ((k4.mono fun q _ e=>.inl e).trans (k5.mono fun q _ e=>.inr (.inl e))))⟩
 ·have d2:ZQ (T.getD u.toNat 0+1>K)=ZS:=decide_eq_false e2;simp only[go_sem,Za,Zb,ae,h15,h16,cu1,c15,afQ,d2];exact⟨by omega,hN e1 (by omega) _ _ Bu ku⟩
def yo (s:List Int) (m:UInt64) (k:Nat) (u:Int):Nat:=(((bf (bt m)).take k).filter fun x=>ZQ (s.getD x 0=u)).length
def LP (s:List Int) (m:UInt64) (u:Int):yo s m 0 u=0:=rfl
def qC {k:Nat} (hk:k<(bf (bt m)).length) (u:Int):yo s m (k+1) u=yo s m k u+if s.getD (bf (bt m))[k] 0=u then 1 else 0:=by
 unfold yo;rw[List.take_succ_eq_append_getElem hk,List.filter_append,List.length_append]
 congr 1
 simp only[List.filter_cons,List.filter_nil,decide_eq_true_eq]
 split<;>simp
def Fa {s : List Int} {m : UInt64} {u : Int} {a : Nat} : ∀ {b : Nat}, a <= b -> yo s m a u <= yo s m b u
  | 0, h => by have : a = 0 := by omega
               subst this; exact ZH _
  | b + 1, h => by
    by_cases e : a = b + 1
    · rw [e]; exact ZH _
    · refine Zp (Fa (show a <= b by omega)) ?_
      by_cases hb : b < (bf (bt m)).length
      · rw [qC hb]; omega
      · unfold yo;rw [Zy (show (bf (bt m)).length <= b + 1 by omega), Zy (show (bf (bt m)).length <= b by omega)];exact ZH _
def Ro (s:List Int) (m:UInt64) (k:Nat) (u:Int):yo s m k u<=4096:=by
 unfold yo;refine Zp (List.length_filter_le _ _) ?_;rw[List.length_take];have:=lN 4096 (bt m);have:=gx (bt m);omega
def LQ (hs:s.length<=10) (hm:m.toNat<2^s.length) (u:Int):yo s m (bf (bt m)).length u=E1 s m u s.length:=by
 unfold yo E1 bf;rw[ZI,List.filter_filter,gU];rw[qe (a:=s.length) (b:=4096) (by omega)]
 ·exact bY fun i _=>Bool.and_comm _ _
 ·intro i h1 h2;have:bt m i=ZS:=by
   cases hb:bt m i with
   |false=>rfl
   |true=>
    have:=(jN (n:=s.length) (by omega)).2 hm i hb;simp at this;omega
  rw[this,Bool.and_false]
def Fb (hs:s.length<=10) (hm:m.toNat<2^s.length) {k:Nat} (hi:i<s.length) (h0:s.getD i 0≠0) (h:K<(yo s m k (s.getD i 0):Int)):iX s (K,m)=ZT:=by
 unfold iX;refine List.any_eq_true.2 ⟨s.getD i 0,?_,?_⟩
 ·rw[ZP,ZO hi];exact ZL _
 ·simp only[ZJ,decide_eq_true_eq];refine⟨h0,?_⟩;have h1:yo s m k (s.getD i 0)<=E1 s m (s.getD i 0) s.length:=by
   rw[<-LQ hs hm]
   by_cases hk:k<=(bf (bt m)).length
   ·exact Fa hk
   ·unfold yo;rw[Zy (show(bf (bt m)).length<=k by omega),ZI];exact ZH _
  omega
def yS (hs:s.length<=10) (hm:m.toNat<2^s.length) (hr:∀u∈s,0<=u/\u<=256) (h:∀u:Int,0<=u->u<=256->u≠0->(yo s m (bf (bt m)).length u:Int)<=K):iX s (K,m)=ZS:=by
 unfold iX;refine List.any_eq_false.2 fun u hu=>?_;simp only[ZJ,decide_eq_true_eq,not_and,Int.not_lt];intro h0;have:=h u (hr u hu).1 (hr u hu).2 h0
 rwa [LQ hs hm]at this
def abt (hg:fU P V (V.f 312)) (hmi:Bv P (V.f 316)) (hma:Bw P (V.f 317)) {b2:Nat} {s b d a m:ZR} {F:cf}
  (h2:f 2=Z7 (ZV ⟨b2,0,ZU⟩)) (h3:f 3=Z7 (ZV ⟨b3,0,ZU⟩)) (h4:f 4=Z7 (ZV ⟨b4,0,ZU⟩)) (h5:f 5=Z7 (ZV ⟨b5,0,ZU⟩))
  (B2:Bl A b2 [s,b,d,a,m]) (B3:Bl A b3 [sv]) (B4:Bl A b4 [Z8 ZY 0,Z8 ZY 0]) (B5:Bl A b5 [Z5 ZS]) (h45:b4≠b5) (hv:bZ A (Z0 #[s,b,d,a,m]) F) (hok:nM F=ZT) (hs:aP A sv (iL st)) (hT:bh V A) (is0:aq s) (ls0:aW s=F.st.length)
  (hN:ux F.st.length st=ZT->∀f' A',(∀j,j≠39->f' j=f j)->af (fun _=>False) A A'->Qb .n f' A')
  (hR:ux F.st.length st=ZS->∀f' A',(∀j,j≠39->f' j=f j)->Bl A' b4 [Z8 ZY 0,Z8 ZY 0]->Bl A' b5 [Z5 ZS]->af (fun q=>q=b4\/q=b5) A A'->Qb .r f' A'):vc P (Ig V) Qb f A:=by
 unfold Ig kF kM kT kU kV kc kf kg kY;have hG:=dH hok;have hn:=hG.lt;have hne:0<F.st.length:=List.length_pos_iff.2 hG.ne;have ai:∀(z:ZR),∀j,j≠39->bR f 39 z j=f j:=fun z j hj=>by simp only[bR,hj,if_false]
 have out:∀A1,af (fun _=>False) A A1->ux F.st.length st=ZS->bG A1 ⟨b4,0,ZU⟩ 2/\((cell (aB A1 ⟨b4,0,ZU⟩ [Z8 ZY 0,Z8 ZY 0]) ⟨b5,0,ZU⟩).isSome=ZT/\tL (aB A1 ⟨b4,0,ZU⟩ [Z8 ZY 0,Z8 ZY 0]) ⟨b5,0,ZU⟩=ZS)/\∀z,Qb .r (bR f 39 z) (az (aB A1 ⟨b4,0,ZU⟩ [Z8 ZY 0,Z8 ZY 0]) ⟨b5,0,ZU⟩ (Z5 ZS)):=fun A1 K1 hf=>by
  have B41:=K1.bl B4 id;have B51:=K1.bl B5 id;have B4w:=B41.aB 0 [Z8 ZY 0,Z8 ZY 0];have k4:af (fun q=>q=b4) A1 (aB A1 ⟨b4,0,ZU⟩ [Z8 ZY 0,Z8 ZY 0]):=(af.refl _ _).aB _ (.inl rfl);have Av:=k4.bl B51 (fun e=>h45 e.symm);have UI:=Av.az 0 (Z5 ZS);have k5:af (fun q=>q=b5) (aB A1 ⟨b4,0,ZU⟩ [Z8 ZY 0,Z8 ZY 0]) (az (aB A1 ⟨b4,0,ZU⟩ [Z8 ZY 0,Z8 ZY 0]) ⟨b5,0,ZU⟩ (Z5 ZS)):=(af.refl _ _).az _ (.inl rfl);exact⟨B41.bG (o:=0) (n:=2) (by simp),Av.bw (o:=0) (by simp),fun z=>hR hf _ _ (ai z) (k5.bl B4w h45) UI ((K1.any.trans (k4.mono fun q _ e=>.inl e)).trans (k5.mono fun q _ e=>.inr e))⟩
 have ha:bM #[Value.int ZY 0,Value.int ZY 0]:=aU rfl;simp only[go_sem,Za,Zb,ae,h2,B2.aL 5 rfl];refine(hg F _ A hT hv).mono ?_;rintro r A1 ⟨rfl,K1⟩;have c3:cell A1 ⟨b3,0,ZU⟩=ZV sv:=by rw[(K1.bl B3 id).cell];rfl
 have c2:cell A1 ⟨b2,0,ZU⟩=ZV s:=by rw[(K1.bl B2 id).cell];rfl
 have hls:aW sv=st.length:=by rw[hs.len,aA]
 rw[ae,hok]
 by_cases e1:st.length=F.st.length
 case neg=>
  have d1:((st.length:Int)!=(F.st.length:Int))=ZT:=bne_iff_ne.2 (by omega);obtain⟨t1,t2,t3⟩:=out A1 K1 (by unfold ux;simp[e1]);simp only[go_sem,Za,Zb,ae,ZE,h2,h3,h4,h5,c3,c2,hs.aq,hls,is0,ls0,d1,t1,t2];exact⟨ha,t3 _⟩
 have d1:((st.length:Int)!=(F.st.length:Int))=ZS:=by rw[e1];simp
 have hns:st≠[]:=fun e=>by rw[e]at e1;simp at e1;omega
 simp-implicitDefEqProofs only[go_sem,↓reduceIte,Za,Zb,Zc,reduceCtorEq,ae,ZE,h2,h3,h4,h5,c3,c2,hs.aq,hls,is0,ls0,d1];refine(hmi st sv A1 (hs.ai K1 (by simp)) hns (by omega)).mono ?_;rintro r A2 ⟨⟨mi,rfl,hmi⟩,rfl⟩;rw[ae]
 by_cases e2:mi<0
 ·have d2:ZQ (mi<0)=ZT:=decide_eq_true e2;obtain⟨t1,t2,t3⟩:=out A2 K1 (by
   obtain⟨u,hu,hlt⟩:=hmi.1 e2;unfold ux;rw[Wr];left;rw[V9];exact⟨u,hu,by simp;omega⟩)
  simp only[go_sem,Za,Zb,ae,ZE,h2,h3,h4,h5,c3,c2,d2,t1,t2];exact⟨ha,t3 _⟩
 have d2:ZQ (mi<0)=ZS:=decide_eq_false e2;simp-implicitDefEqProofs only[go_sem,↓reduceIte,Za,Zb,Zc,reduceCtorEq,ae,ZE,h2,h3,h4,h5,c3,c2,d2];refine(hma st sv A2 (hs.ai K1 (by simp)) hns (by omega)).mono ?_;rintro r A3 ⟨⟨mx,rfl,hmx⟩,rfl⟩;rw[ae]
 by_cases e3:mx>256
 ·have d3:ZQ (mx>256)=ZT:=decide_eq_true e3;obtain⟨t1,t2,t3⟩:=out A3 K1 (by
   obtain⟨u,hu,hlt⟩:=hmx.1 e3;unfold ux;rw[Wr];left;rw[V9];exact⟨u,hu,by simp;omega⟩)
  simp only[go_sem,Za,Zb,ae,ZE,h2,h3,h4,h5,c3,c2,d3,t1,t2];exact⟨ha,t3 _⟩
 have d3:ZQ (mx>256)=ZS:=decide_eq_false e3;simp only[go_sem,Za,Zb,ae,ZE,h2,h3,h4,h5,c3,c2,d3];refine hN ?_ _ A3 (ai _) K1;unfold ux;rw[decide_eq_true e1,Bool.and_true,YH];intro u hu;have h1:¬u<0:=fun h=>e2 (hmi.2 ⟨u,hu,h⟩);have h2:¬256<u:=fun h=>e3 (hmx.2 ⟨u,hu,h⟩);simp;omega
def Fc (n k:Nat):(List.replicate n (0:Int)).getD k 0=0:=by
 rw[ZP,List.getElem?_replicate]
 split<;>rfl
def abu (hba:gz P (V.f 137) (V.f 136)) (hb1:bS P (V.f 136)=ZT) (hY:mF P (V.f 136) (jf V) jg 2) (htz:mz P V (V.f 126))
  (h3:f 3=Z7 (ZV ⟨b3,0,ZU⟩)) (h4:f 4=Z7 (ZV ⟨b4,0,ZU⟩)) (h5:f 5=Z7 (ZV ⟨b5,0,ZU⟩)) (h14:f 14=Z7 (ZV ⟨b14,0,ZU⟩)) (h15:f 15=Z7 (ZV ⟨b15,0,ZU⟩))
  (B3:Bl A b3 [sv]) (B4:Bl A b4 [Rn,UH]) (B5:Bl A b5 [c5]) (yk:Bl A b14 [Z8 ZY (i:Int)]) (GB:Bl A b15 [Z8 ZY K,mv]) (h45:b4≠b5) (h3n:b3≠b4/\b3≠b5) (h14n:b14≠b4/\b14≠b5) (h15n:b15≠b4/\b15≠b5)
  (hs:aP A sv (iL st)) (hsn:∀q,aV sv q->q≠b4/\q≠b5) (hm:aR A (Z0 #[mv]) (bt m)) (hmn:∀q,aV mv q->q≠b4/\q≠b5) (hT:bh V A) (hTn:∀A',af (fun q=>q=b4\/q=b5\/A.size<=q) A A'->bh V A')
  (hl:st.length<=10) (hK:1<=K) (hmt:m.toNat<2^st.length) (hr:∀u∈st,0<=u/\u<=256)
  (hR:iX st (K,m)=ZT->∀f' A' q,(∀j,j∉[16,111,134]->f' j=f j)->f' 134=pS (f 134) q->A.size<=q->A'[q]?=ZV (.deferred (ZV []))->Bl A' b4 [Z8 ZY 3,Z8 ZY (i:Int)]->Bl A' b5 [Z5 ZS]->af (fun q=>q=b4\/q=b5) A A'->Qb .r f' A')
  (hN:iX st (K,m)=ZS->∀f' A' q,(∀j,j∉[16,111,134]->f' j=f j)->f' 134=pS (f 134) q->A.size<=q->A'[q]?=ZV (.deferred (ZV []))->Bl A' b4 [Rn,UH]->Bl A' b5 [c5]->af (fun q=>q=b4\/q=b5) A A'->Qb .n f' A'):vc P (Ik V) Qb f A:=by
 unfold Ik kG kN kd kg kY;have s4:=B4.lt;have s5:=B5.lt;have s3:=B3.lt;have s14:=yk.lt;have s15:=GB.lt;simp only[go_sem,Za,Zb];refine ax fun H1 E9 e16 z16 B16 K1=>?_;rw[Array.toList_replicate,rN]at B16;have ahT:=K1.bl GB id;have mS:aQ H1 ⟨b15,1,ZU⟩ 1=ZV #[mv]:=by
  have:=ahT.aQ (o:=1) (n:=1) (by simp);simpa using this
 simp only[go_sem,Za,Zb,ae,h15,aC,mS];refine(hba mv H1).mono ?_;rintro r H2 ⟨rfl,Bs,K2,z2⟩;rw[ae];have cS:=K1.trans K2;have NV:=cS.bl B3 (by simp);have B42:=cS.bl B4 (by simp);have B52:=cS.bl B5 (by simp);have akT:=cS.bl yk (by simp);have akU:=K2.bl ahT id;have akV:=K2.bl B16 id;have s16:=B16.lt;obtain⟨u,W0,hu,hV⟩:=hm;simp only[Value.agg.injEq,Array.mk.injEq,List.cons.injEq,and_true]at hu;rw[<-hu]at hV;have hmo:∀q,aV mv q->q<A.size:=fun q hq=>aR.bo (x:=Z0 #[mv]) ⟨mv,W0,rfl,hV⟩ (k:=q) hq;have hV2:=hV.ai cS (by simp);have hso:∀q,aV sv q->q<A.size:=fun q hq=>hs.bo hq;have hs2:=hs.ai cS (by simp);simp only[go_sem,Za,Zb,ae];refine LB (fun p=>p=b4\/p=b5\/p=E9) (fun k A=>∃T,Bl A E9 (iL T)/\T.length=257/\(∀u:Int,0<=u->u<=256->u≠0->T.getD u.toNat 0=(yo st m k u:Int)/\(yo st m k u:Int)<=K)/\T.getD 0 0=0/\Bl A b4 [Rn,UH]/\Bl A b5 [c5])
  (fun e A=>e=.r/\iX st (K,m)=ZT/\Bl A b4 [Z8 ZY 3,Z8 ZY (i:Int)]/\Bl A b5 [Z5 ZS]) (G:=fun H=>bh V H/\Bl H H1.size [mv]/\fR H mv W0 (bt m)) (by rfl) hb1 (qk hY htz) ?_ ?_ ?_ ?_ ?_ ?_ ?_ ?_
 ·rintro p (rfl|rfl|rfl)<;>omega
 ·rintro k X KX _;refine⟨hTn X (cS.any.trans (KX.mono fun q _ h=>?_)),KX.bl Bs (by omega),hV2.ai KX fun q hq h=>?_⟩
  ·rcases h with h|h|h
   ·exact .inl h
   ·exact .inr (.inl h)
   ·exact .inr (.inr (by omega))
  ·have:=hmn q hq;have:=hmo q hq;omega
 ·intro X KX ph;exact⟨_,KX.bl akV id,by simp,fun u _ hu h0=>⟨by rw[LP,Fc];rfl,by rw[LP];omega⟩,Fc _ _,KX.bl B42 id,KX.bl B52 id⟩
 ·rintro k X X2 ph KX ⟨T,j1,j2,j3,j4,j5,j6⟩ KK;exact⟨T,KK.bl j1 (by omega),j2,j3,j4,KK.bl j5 (by omega),KK.bl j6 (by omega)⟩
 ·rintro e X X2 ph KX ⟨j1,j2,j3,j4⟩ KK;exact⟨j1,j2,KK.bl j3 (by omega),KK.bl j4 (by omega)⟩
 ·rintro k X hk KX ph ⟨T,j1,j2,j3,j4,j5,j6⟩;have hkl:k<(bf (bt m)).length:=by simpa[cU]using hk
  obtain⟨x,hx⟩:∃x,x=(bf (bt m))[k]:=⟨_,rfl⟩
  have hxv:(cU (bt m)).getD k undef=Z8 ZY (x:Int):=by
   rw[ZP,ZO hk];simp[cU,hx]
  rw[hxv];have hxm:bt m x=ZT:=(my.1 (show x∈bf (bt m) by rw[hx];exact ZL _)).2;have hxl:x<st.length:=by
   have:=(jN (n:=st.length) (by omega)).2 hmt x hxm;simpa using this
  have hxr:=hr (st.getD x 0) (by rw[ZP,ZO hxl];exact ZL _);have hval:0<=T.getD (st.getD x 0).toNat 0/\T.getD (st.getD x 0).toNat 0<=10000/\(st.getD x 0≠0->T.getD (st.getD x 0).toNat 0=(yo st m k (st.getD x 0):Int)):=by
   by_cases e0:st.getD x 0=0
   ·rw[e0];have:T.getD (0:Int).toNat 0=0:=j4;rw[this];exact⟨by omega,by omega,fun h=>absurd rfl h⟩
   ·obtain⟨v1,_⟩:=j3 _ hxr.1 hxr.2 e0;have:=Ro st m k (st.getD x 0);rw[v1];exact⟨by omega,by omega,fun _=>rfl⟩
  have htm:∀v,yo st m (k+1) v=yo st m k v+if st.getD x 0=v then 1 else 0:=fun v=>by rw[qC hkl,hx]
  have X3:=KX.bl NV (by omega);have X14:=KX.bl akT (by omega);have X15:=KX.bl akU (by omega);have hsX:=hs2.ai KX fun q hq h=>by
   have:=hsn q hq;have:=hso q hq;omega
  refine abr (i:=i) (kk:=x) (K:=K) (mv:=mv) (T:=T) (by simp only[go_sem,Za,Zb,ae,h3]) (by simp only[go_sem,Za,Zb,ae,h4]) (by simp only[go_sem,Za,Zb,ae,h5]) (by simp only[go_sem,Za,Zb,ae,h14]) (by simp only[go_sem,Za,Zb,ae,h15]) (by rfl) (by rfl) X3 j5 j6 h45 X14 X15 j1 (by omega) (by omega) (by omega) (by omega) hsX hxl j2 hxr.1 hxr.2 hval.1 hval.2.1 ?_ ?_ ?_
  ·intro e0 Ac f' A' w4 w5 KK;refine⟨KK.mono fun q _ h=>.inl h,rfl,Fb hl hmt (k:=k+1) hxl e0 ?_,w4,w5⟩;rw[hval.2.2 e0]at Ac;have:=htm (st.getD x 0);rw[if_pos rfl]at this;omega
  ·intro e0 hle f' A' w16 KK;rw[hval.2.2 e0]at hle w16;refine⟨KK.mono fun q _ h=>.inl (.inr (.inr h)),_,w16,by simpa using j2,fun u hu0 hu1 hu=>?_,?_,KK.bl j5 (by omega),KK.bl j6 (by omega)⟩
   ·obtain⟨v1,v2⟩:=j3 u hu0 hu1 hu;rw[ZP,XA];have ht:=htm u
    by_cases eu:st.getD x 0=u
    ·rw[if_pos eu]at ht;rw[if_pos (by rw[eu]),if_pos (by omega),eu];rw[eu]at hle;simp only[Option.getD_some];omega
    ·rw[if_neg eu]at ht;rw[if_neg (by omega),<-ZP,v1];omega
   ·rw[ZP,XA,if_neg (by omega),<-ZP];exact j4
  ·intro e0 f';refine⟨af.refl _ _,T,j1,j2,fun u hu0 hu1 hu=>?_,j4,j5,j6⟩;obtain⟨v1,v2⟩:=j3 u hu0 hu1 hu;have ht:=htm u;rw[if_neg (by omega)]at ht;exact⟨by omega,by omega⟩
 ·rintro X KX ph hd ⟨T,j1,j2,j3,j4,j5,j6⟩;have Rp:(cU (bt m)).length=(bf (bt m)).length:=by simp[cU]
  rw[Rp]at j3;refine hN (yS hl hmt hr fun u h0 h1 h2=>(j3 u h0 h1 h2).2) _ X H2.size (fun j hj=>?_) (by rfl) (by omega) hd j5 j6 ?_
  ·simp only[YW,Zk,or_false,not_or]at hj;simp only[bR,D.fr,hj.1,hj.2.1,hj.2.2,if_false]
  ·refine cS.any.trans' KX fun q hq h=>?_;rcases h with h|h|h
   ·exact .inl h
   ·exact .inr h
   ·omega
 ·rintro e X KX ph hd ⟨rfl,j2,j3,j4⟩;refine hR j2 _ X H2.size (fun j hj=>?_) (by rfl) (by omega) hd j3 j4 ?_
  ·simp only[YW,Zk,or_false,not_or]at hj;simp only[bR,D.fr,hj.1,hj.2.1,hj.2.2,if_false]
  ·refine cS.any.trans' KX fun q hq h=>?_;rcases h with h|h|h
   ·exact .inl h
   ·exact .inr h
   ·omega
def ly (F:cf) (st:List Int):Nat×Nat×Bool:=if ux F.st.length st=ZT then((eY F st).1,(eY F st).2,ZQ ((eY F st).1=0))else(0,0,ZS)
def ahU (x:Nat×Nat×Bool):ZR:=ZZ #[Z0 #[Z8 ZY (x.1:Int),Z8 ZY (x.2.1:Int)],.bool x.2.2]
def wN (P:Program) (V:aH) (k:FuncId):Prop:=∀(F:cf) (v sv:ZR) (st:List Int) (H:Hp),bh V H->bZ H v F->nM F=ZT->aP H sv (iL st)->an P k #[v,sv] H fun r H'=>r=ahU (ly F st)/\af (fun _=>False) H H'
structure akW (P:Program) (V:aH):Prop where
 gd:fU P V (V.f 312)
 mi:Bv P (V.f 316)
 ma:Bw P (V.f 317)
 all:gz P (V.f 137) (V.f 136)
 a1:bS P (V.f 136)=ZT
 aY:mF P (V.f 136) (jf V) jg 2
 tz:mz P V (V.f 126)
def sC {p:α->Bool} {l:List α} (hi:i<l.length) (h:p l[i]=ZT) (hp:∀j,(hj:j<l.length)->j<i->p l[j]=ZS):l.findIdx? p=ZV i:=
 List.findIdx?_eq_some_iff_getElem.2 ⟨hi,h,fun j hj=>by rw[hp j (by omega) hj];simp⟩
def nN {p:α->Bool} {l:List α} (hp:∀j,(hj:j<l.length)->p l[j]=ZS):l.findIdx? p=ZU:=
 List.findIdx?_eq_none_iff.2 fun x hx=>by
  obtain⟨j,hj,rfl⟩:=ZC hx;exact hp j hj
def gZ {p:α->Bool} {l:List α} (hi:i<l.length) (h:p l[i]=ZS) (hp:∀j,(hj:j<l.length)->j<i->p l[j]=ZS):∀j,(hj:j<l.length)->j<i+1->p l[j]=ZS:=fun j hj hlt=>by
 by_cases e:j=i
 ·subst e;exact h
 ·exact hp j hj (by omega)
def abv (hk:iH P k (Il V) Im 2 134) (c:akW P V):wN P V k:=by
 intro F v sv st H hT hv hok hst;have pg:=hv;obtain⟨s,b,d,a,m,ms,rfl,h1,h2,h3,h4,h5,h6⟩:=hv;have hG:=dH hok;have su:=hG.lim;unfold iJ at su;refine qI fun Q hQ=>?_;refine gW hk (args:=[_,_]) (by simp) ?_;unfold Il Im kA kB kC ke kG kH kK kN kO kR kU kV kd kf kY kZ;simp only[go_sem,Za,Zb];refine ax fun H1 b2 e1 z1 B1 K1=>?_;have bL:Bl H1 b2 [s,b,d,a,m]:=B1;simp only[go_sem,Za,Zb];refine ax fun H2 b3 e2 z2 B2 K2=>?_;have fG:Bl H2 b3 [sv]:=by
  have:=hst.aq
  cases sv<;>first|exact B2|exact absurd this (by simp[aq])
 simp only[go_sem,Za,Zb];refine ax fun H3 b4 e3 z3 B3 K3=>?_;have uT:Bl H3 b4 [Z8 ZY 0,Z8 ZY 0]:=B3;simp only[go_sem,Za,Zb];refine ax fun H4 b5 e4 z4 B4 K4=>?_;have tU:Bl H4 b5 [Z5 ZS]:=B4;have cS:=K1.trans K2;have oF:=(cS.trans K3).trans K4;have s1:=K1.size;have s2:=K2.size;have s3:=K3.size;have s4:=K4.size;have yk:=(K2.trans (K3.trans K4)).bl bL (by simp);have Lw:=(K3.trans K4).bl fG (by simp);have Pl:=K4.bl uT id;have hT4:=hT.ai oF;have v4:=pg.aj oF;have st4:=hst.ai oF (by simp);have h45:b4≠b5:=by omega
 have fin:∀(x y:Nat) (q:Bool) f' A',f' 4=Z7 (ZV ⟨b4,0,ZU⟩)->f' 5=Z7 (ZV ⟨b5,0,ZU⟩)->(l8 (f' 134)).Nodup->(∀p∈l8 (f' 134),H4.size<=p/\A'[p]?=ZV (.deferred (ZV [])))->Bl A' b4 [Z8 ZY (x:Int),Z8 ZY (y:Int)]->Bl A' b5 [.bool q]->af (fun p=>p=b4\/p=b5) H4 A'->ly F st=(x,y,q)->oy 134 [.cn 4 2,.c1 5] Q .r f' A':=fun x y q f' A' f4 f5 hnd hmk j4 j5 K hr=>by
  refine⟨hnd,fun p hp=>(hmk p hp).2,fun A2 hs2 hk2=>?_⟩;have M:af (fun p=>p∈l8 (f' 134)) A' A2:=⟨by omega,fun p _ h=>hk2 p h⟩
  have ahV:=Pl.lt;have akX:=tU.lt;have i4:=M.bl j4 (fun h=>by have:=(hmk _ h).1;omega);have i5:=M.bl j5 (fun h=>by have:=(hmk _ h).1;omega);have c5:cell A2 ⟨b5,0,ZU⟩=ZV (.bool q):=by rw[i5.cell];rfl
  rw[hQ,hr];have n4:aL A2 (Z7 (ZV ⟨b4,0,ZU⟩)) 2=ZV #[Z8 ZY (x:Int),Z8 ZY (y:Int)]:=i4.aL 2 rfl;simp only[go_sem,Za,Zb,ae,dQ,dR,f4,f5,n4,c5];exact⟨rfl,(oF.trans' K fun p hp h=>by omega).trans' M fun p hp h=>by have:=(hmk p h).1;omega⟩
 have Io:∀(x y:Nat) (q:Bool) f' A',f' 4=Z7 (ZV ⟨b4,0,ZU⟩)->f' 5=Z7 (ZV ⟨b5,0,ZU⟩)->f' 134=undef->Bl A' b4 [Z8 ZY (x:Int),Z8 ZY (y:Int)]->Bl A' b5 [.bool q]->af (fun p=>p=b4\/p=b5) H4 A'->ly F st=(x,y,q)->oy 134 [.cn 4 2,.c1 5] Q .r f' A':=fun x y q f' A' f4 f5 f6 j4 j5 K hr=>
  fin x y q f' A' f4 f5 (by rw[f6,dX];exact WA) (by rw[f6,dX];intro p hp;cases hp) j4 j5 K hr
 have hdi:∀j,(hj:j<F.di.length)->kj (F.st.length:Int) F.di[j]:=fun j hj=>(hG.di _ (ZL hj)).1;have UF:∀j,(hj:j<F.sa.length)->kj (F.st.length:Int) F.sa[j]:=fun j hj=>(hG.sa _ (ZL hj)).1;have hmo:∀j,(hj:j<F.mo.length)->1<=F.mo[j].1/\F.mo[j].2.toNat<2^F.st.length:=fun j hj=>by
  have:=hG.mo _ (ZL hj);unfold pk at this
  split at this
  ·omega
  ·next h=>omega
 simp only[go_sem,Za,Zb,ae];refine abt c.gd c.mi c.ma (by rfl) (by rfl) (by rfl) (by rfl) yk Lw Pl tU h45 v4 hok st4 hT4 h1.aq h1.len (fun nU f' A yQ KA=>?_) (fun nU f' A yQ j4 j5 KA=>?_)
 case refine_2=>
  refine Io 0 0 ZS f' A (by rw[yQ 4 (by decide)];simp only[go_sem,Za,Zb,ae]) (by rw[yQ 5 (by decide)];simp only[go_sem,Za,Zb,ae]) (by rw[yQ 134 (by decide)];simp only[go_sem,Za,Zb,ae]) j4 j5 KA ?_;unfold ly;rw[nU];rfl
 have hl:st.length=F.st.length:=by
  unfold ux at nU;simp only[ZJ,decide_eq_true_eq]at nU;exact nU.2
 have hr:∀u∈st,0<=u/\u<=256:=fun u hu=>by
  unfold ux at nU;simp only[ZJ,decide_eq_true_eq,YH]at nU;exact nU.1 u hu
 have hR1:∀x y,eY F st=(x,y)->ly F st=(x,y,ZQ (x=0)):=fun x y h=>by
  unfold ly;rw[if_pos nU,h]
 have g2:f' 2=Z7 (ZV ⟨b2,0,ZU⟩):=by rw[yQ 2 (by decide)];simp only[go_sem,Za,Zb,ae]
 have g3:f' 3=Z7 (ZV ⟨b3,0,ZU⟩):=by rw[yQ 3 (by decide)];simp only[go_sem,Za,Zb,ae]
 have g4:f' 4=Z7 (ZV ⟨b4,0,ZU⟩):=by rw[yQ 4 (by decide)];simp only[go_sem,Za,Zb,ae]
 have g5:f' 5=Z7 (ZV ⟨b5,0,ZU⟩):=by rw[yQ 5 (by decide)];simp only[go_sem,Za,Zb,ae]
 have abw:f' 134=undef:=by rw[yQ 134 (by decide)];simp only[go_sem,Za,Zb,ae]
 have QU:=KA.bl yk id;have NT:=KA.bl Lw id;have B4A:=KA.bl Pl id;have B5A:=KA.bl tU id;have c2:cell A ⟨b2,2,ZU⟩=ZV d:=by rw[QU.cell];rfl
 have KHA:=oF.trans KA;have hso:∀q,aV sv q->q<H.size:=fun q hq=>hst.bo hq;have ahV:=Pl.lt;have akX:=tU.lt;have sA:=KA.size;have bo:∀X,af (fun p=>p=b4\/p=b5) A X->af (fun _=>False) H X:=fun X K=>KHA.trans' K fun p hp h=>by omega
 simp only[go_sem,Za,Zb,ae,g2,c2,h3.aq,h3.len];refine aF F.di.length [45,7,6,8,9,65,44] rfl rfl (by omega) (by rfl) (by rfl) (fun i g X=>(∀j,(hj:j<F.di.length)->j<i->gC st F.di[j]=ZS)/\Bl X b4 [Z8 ZY 0,Z8 ZY 0]/\Bl X b5 [Z5 ZS]/\af (fun p=>p=b4\/p=b5) A X) ⟨fun j _ h=>by omega,B4A,B5A,af.refl _ _⟩ ?_ ?_
 ·rintro i g X hi gi gn ⟨hp,j4,j5,KX⟩;simp only[go_sem,Za,Zb,ae]at gi gn;have lP:=bo X KX;have sX:=KX.size;obtain⟨pb,po,pc,fT,oz,hld⟩:=(h3.aj lP).elem (enc:=pE) (k:=2) (fun _=>rfl) hi;obtain⟨y,hy⟩:∃y,y=F.di[i]:=⟨_,rfl⟩
  rw[<-hy]at hld;have dm:aQ X ⟨pb,po+i*2,ZU⟩ 2=ZV #[Z8 ZY y.1,Z8 ZY y.2]:=hld;simp only[go_sem,Za,Zb,gi,fT,al,aC,dm];refine⟨by omega,?_⟩;refine cG [Z8 ZY y.1,Z8 ZY y.2] (Z8 ZY (i:Int)) rfl (by rfl) (by rfl) rfl rfl rfl fun A1 b7 e7 z7 B7 K7=>?_;have s7:=K7.size;simp only[go_sem,Za,Zb,ae];refine abp (i:=i) (x:=y) (by simp only[go_sem,Za,Zb,ae,g3]) (by simp only[go_sem,Za,Zb,ae,g4]) (by simp only[go_sem,Za,Zb,ae,g5]) (by rfl) (by rfl) (K7.bl (KX.bl NT (by omega)) (by simp)) (K7.bl j4 id) (K7.bl j5 id) h45 B7 ((hst.ai lP (by simp)).ai K7 (by simp)) hl (by rw[hy];exact hdi i hi) (fun hh g' A2 rD w4 w5 K2'=>?_) (fun hh g' rD=>?_)
  ·refine Io 1 i ZS g' A2 (by rw[rD 4 (by decide)];simp only[go_sem,Za,Zb,ae,g4]) (by rw[rD 5 (by decide)];simp only[go_sem,Za,Zb,ae,g5]) (by rw[rD 134 (by decide)];simp only[go_sem,Za,Zb,ae,abw]) w4 w5 (((KA.any.trans KX).trans K7.any).trans K2') (hR1 1 i ?_);unfold eY;rw[sC hi (by rw[<-hy];exact hh) hp]
  ·simp only[go_sem,Za,Zb,ae];exact⟨gZ hi (by rw[<-hy];exact hh) hp,K7.bl j4 id,K7.bl j5 id,KX.trans K7.any⟩
 rintro g X gi ⟨UJ,j4,j5,KX⟩;have fD:F.di.findIdx? (gC st)=ZU:=nN fun j hj=>UJ j hj hj;have c3:cell X ⟨b2,3,ZU⟩=ZV a:=by rw[(KX.bl QU (by omega)).cell];rfl
 simp only[go_sem,Za,Zb,ae,g2,c3,h4.aq,h4.len];refine aF F.sa.length [73,11,10,12,13,97,72] rfl rfl (by omega) (by rfl) (by rfl) (fun i g X=>(∀j,(hj:j<F.sa.length)->j<i->fq st F.sa[j]=ZS)/\Bl X b4 [Z8 ZY 0,Z8 ZY 0]/\Bl X b5 [Z5 ZS]/\af (fun p=>p=b4\/p=b5) A X) ⟨fun j _ h=>by omega,j4,j5,KX⟩ ?_ ?_
 ·clear j4 j5 KX UJ gi c3;rintro i g1 X hi gi gn ⟨hp,j4,j5,KX⟩;simp only[go_sem,Za,Zb,ae]at gi gn;have lP:=bo X KX;have sX:=KX.size;obtain⟨pb,po,pc,fT,oz,hld⟩:=(h4.aj lP).elem (enc:=pE) (k:=2) (fun _=>rfl) hi;obtain⟨y,hy⟩:∃y,y=F.sa[i]:=⟨_,rfl⟩
  rw[<-hy]at hld;have dm:aQ X ⟨pb,po+i*2,ZU⟩ 2=ZV #[Z8 ZY y.1,Z8 ZY y.2]:=hld;simp only[go_sem,Za,Zb,gi,fT,al,aC,dm];refine⟨by omega,?_⟩;refine cG [Z8 ZY y.1,Z8 ZY y.2] (Z8 ZY (i:Int)) rfl (by rfl) (by rfl) rfl rfl rfl fun A1 b7 e7 z7 B7 K7=>?_;have s7:=K7.size;simp only[go_sem,Za,Zb,ae];refine abq (i:=i) (x:=y) (by simp only[go_sem,Za,Zb,ae,g3]) (by simp only[go_sem,Za,Zb,ae,g4]) (by simp only[go_sem,Za,Zb,ae,g5]) (by rfl) (by rfl) (K7.bl (KX.bl NT (by omega)) (by simp)) (K7.bl j4 id) (K7.bl j5 id) h45 B7 ((hst.ai lP (by simp)).ai K7 (by simp)) hl (by rw[hy];exact UF i hi) (fun hh g' A2 rD w4 w5 K2'=>?_) (fun hh g' rD=>?_)
  ·refine Io 2 i ZS g' A2 (by rw[rD 4 (by decide)];simp only[go_sem,Za,Zb,ae,g4]) (by rw[rD 5 (by decide)];simp only[go_sem,Za,Zb,ae,g5]) (by rw[rD 134 (by decide)];simp only[go_sem,Za,Zb,ae,abw]) w4 w5 (((KA.any.trans KX).trans K7.any).trans K2') (hR1 2 i ?_);unfold eY;rw[fD,sC hi (by rw[<-hy];exact hh) hp]
  ·simp only[go_sem,Za,Zb,ae];exact⟨gZ hi (by rw[<-hy];exact hh) hp,K7.bl j4 id,K7.bl j5 id,KX.trans K7.any⟩
 clear j4 j5 KX c3;rintro g1 X gi1 ⟨NW,j4,j5,KX⟩;have fS:F.sa.findIdx? (fq st)=ZU:=nN fun j hj=>NW j hj hj;have c4:cell X ⟨b2,4,ZU⟩=ZV m:=by rw[(KX.bl QU (by omega)).cell];rfl
 have mb:ms.length=F.mo.length:=h6.len;simp only[go_sem,Za,Zb,ae,g2,c4,h5.aq,h5.len,mb];refine aF F.mo.length [105,14,15,16,111,134,112,17,18,118,129,104] rfl rfl (by omega) (by rfl) (by rfl) (fun i g X=>(∀j,(hj:j<F.mo.length)->j<i->iX st F.mo[j]=ZS)/\(l8 (g 134)).Nodup/\(∀p∈l8 (g 134),H4.size<=p/\X[p]?=ZV (.deferred (ZV [])))/\Bl X b4 [Z8 ZY 0,Z8 ZY 0]/\Bl X b5 [Z5 ZS]/\af (fun p=>p=b4\/p=b5) A X) ⟨fun j _ h=>by omega,?_,?_,j4,j5,KX⟩ ?_ ?_
 ·simp only[go_sem,Za,Zb,ae,abw,dX];exact WA
 ·simp[go_sem,Za,Zb,ae,abw,dX]
 ·clear j4 j5 KX c4 NW gi1;rintro i g2' X hi gi gn ⟨hp,hnd,hmk,j4,j5,KX⟩;simp only[go_sem,Za,Zb,ae]at gi gn hnd hmk;have lP:=bo X KX;have sX:=KX.size;have hmi:i<ms.length:=by omega
  obtain⟨pb,po,pc,fT,oz,hld⟩:=(h5.aj lP).elem dG hmi;obtain⟨x,hx⟩:∃x,x=ms[i]:=⟨_,rfl⟩
  obtain⟨y,hy⟩:∃y,y=F.mo[i]:=⟨_,rfl⟩
  obtain⟨x1,xm⟩:=h6.at_ i hmi hi;rw[<-hx,<-hy]at x1 xm;rw[<-hx]at hld;rw[mb]at fT;have dm:aQ X ⟨pb,po+i*2,ZU⟩ 2=ZV #[Z8 ZY x.1,gP x]:=hld;simp only[go_sem,Za,Zb,gi,fT,al,aC,dm];refine⟨by omega,?_⟩;refine ax fun A1 b14 e14 z14 GQ F3=>?_;have s14:=F3.size;simp only[go_sem,Za,Zb];refine ax fun A2 b15 e15 z15 afR Nq=>?_;have s15:=Nq.size;have Ba:Bl A2 b15 [Z8 ZY 0,Z6 ZU 0 0]:=afR;have t14:=(Nq.bl GQ (by simp)).bw (o:=0) (by simp);have C14:=(Nq.bl GQ (by simp)).az 0 (Z8 ZY (i:Int));have L1:af (fun q=>q=b14) A2 (az A2 ⟨b14,0,ZU⟩ (Z8 ZY (i:Int))):=(af.refl _ _).az _ (.inl rfl);have C15:=L1.bl Ba (by omega);have t15:=C15.bG (o:=0) (n:=2) (by simp);have D15:=C15.aB 0 [Z8 ZY x.1,gP x];have L2:af (fun q=>q=b15) (az A2 ⟨b14,0,ZU⟩ (Z8 ZY (i:Int))) (aB (az A2 ⟨b14,0,ZU⟩ (Z8 ZY (i:Int))) ⟨b15,0,ZU⟩ [Z8 ZY x.1,gP x]):=(af.refl _ _).aB _ (.inl rfl);have D14:=L2.bl C14 (by omega);have ha:bM #[Z8 ZY x.1,gP x]:=aU rfl;simp only[go_sem,Za,Zb,ae,t14,t15];refine⟨ha,?_⟩;generalize aB (az A2 ⟨b14,0,ZU⟩ (Z8 ZY (i:Int))) ⟨b15,0,ZU⟩ [Z8 ZY x.1,gP x]=X3 at L2 D14 D15⊢;have Rq:af (fun _=>False) X X3:=(((F3.trans Nq).trans' L1 fun q hq h=>by omega)).trans' L2 fun q hq h=>by omega
  have s3':=Rq.size;have F4:=lP.trans Rq;have hmx:∀q,aV (gP x) q->q<H.size:=fun q hq=>aR.bo xm (k:=q) hq;obtain⟨m1,m2⟩:=hmo i hi;rw[<-hy]at m1 m2;have hx3:=L2.size;have mk3:∀A',af (fun q=>q=b4\/q=b5) X3 A'->∀p∈l8 (g2' 134),H4.size<=p/\A'[p]?=ZV (.deferred (ZV [])):=fun A' K p hp=>by
   obtain⟨p1,p2⟩:=hmk p hp;have hlt:=(Array.getElem?_eq_some_iff.1 p2).1;refine⟨p1,?_⟩;rw[K.at_ p (by omega) (by omega),Rq.at_ p hlt (by simp)];exact p2
  refine abu c.all c.a1 c.aY c.tz (b14:=b14) (b15:=b15) (i:=i) (K:=y.1) (m:=y.2) (mv:=gP x) (st:=st) (by simp only[go_sem,Za,Zb,ae,g3]) (by simp only[go_sem,Za,Zb,ae,g4]) (by simp only[go_sem,Za,Zb,ae,g5]) (by rfl) (by rfl) (Rq.bl (KX.bl NT (by omega)) (by simp)) (Rq.bl j4 (by simp)) (Rq.bl j5 (by simp)) D14 (by rw[<-x1];exact D15) h45 (by omega) (by omega) (by omega) (hst.ai F4 (by simp)) (fun q hq=>by have:=hso q hq;omega) (xm.aj F4) (fun q hq=>by have:=hmx q hq;omega) (hT.ai F4) (fun A' K=>hT.ai (F4.trans' K fun q hq h=>by omega)) (by omega) m1 (by rw[hl];exact m2) hr (fun hh g' A' q rD Fe hq hdq w4 w5 KK=>?_) (fun hh g' A' q rD Fe hq hdq w4 w5 KK=>?_)
  ·simp only[go_sem,Za,Zb,ae]at Fe;have wO:l8 (g' 134)=q::l8 (g2' 134):=by rw[Fe,jI]
   refine fin 3 i ZS g' A' (by rw[rD 4 (by decide)];simp only[go_sem,Za,Zb,ae,g4]) (by rw[rD 5 (by decide)];simp only[go_sem,Za,Zb,ae,g5]) ?_ ?_ w4 w5 (((KA.any.trans KX).trans Rq.any).trans KK) (hR1 3 i ?_)
   ·rw[wO];refine List.nodup_cons.2 ⟨fun h=>?_,hnd⟩;have:=(Array.getElem?_eq_some_iff.1 (hmk q h).2).1;omega
   ·rw[wO];intro p hp;rcases List.mem_cons.1 hp with rfl|hp
    ·exact⟨by omega,hdq⟩
    ·exact mk3 A' KK p hp
   ·unfold eY;rw[fD,fS];simp only;rw[sC hi (by rw[<-hy];exact hh) hp]
  ·simp only[go_sem,Za,Zb,ae]at Fe;have wO:l8 (g' 134)=q::l8 (g2' 134):=by rw[Fe,jI]
   simp only[go_sem,Za,Zb,ae];refine⟨gZ hi (by rw[<-hy];exact hh) hp,?_,?_,w4,w5,(KX.trans Rq.any).trans KK⟩
   ·rw[wO];refine List.nodup_cons.2 ⟨fun h=>?_,hnd⟩;have:=(Array.getElem?_eq_some_iff.1 (hmk q h).2).1;omega
   ·rw[wO];intro p hp;rcases List.mem_cons.1 hp with rfl|hp
    ·exact⟨by omega,hdq⟩
    ·exact mk3 A' KK p hp
 ·rintro g2' Y gi2 ⟨hpM,hnd,hmk,w4,w5,KY⟩;have fM:F.mo.findIdx? (iX st)=ZU:=nN fun j hj=>hpM j hj hj;simp only[go_sem,Za,Zb,ae]at hnd hmk;have t4:=w4.bG (o:=0) (n:=2) (by simp);have B4w:=w4.aB 0 [Z8 ZY 0,Z8 ZY 0];have k4:af (fun q=>q=b4) Y (aB Y ⟨b4,0,ZU⟩ [Z8 ZY 0,Z8 ZY 0]):=(af.refl _ _).aB _ (.inl rfl);have Av:=k4.bl w5 (fun e=>h45 e.symm);have t5:=Av.bw (o:=0) (by simp);have UI:=Av.az 0 (Z5 ZT);have k5:af (fun q=>q=b5) (aB Y ⟨b4,0,ZU⟩ [Z8 ZY 0,Z8 ZY 0]) (az (aB Y ⟨b4,0,ZU⟩ [Z8 ZY 0,Z8 ZY 0]) ⟨b5,0,ZU⟩ (Z5 ZT)):=(af.refl _ _).az _ (.inl rfl);have yb:=k5.bl B4w h45;have ha:bM #[Value.int ZY 0,Value.int ZY 0]:=aU rfl;have kk:=(k4.mono fun q _ e=>XY (b:=q=b5) e).trans (k5.mono fun q _ e=>Yj (a:=q=b4) e);rw[PQ,if_pos rfl];simp only[kx,afb,zM,go_sem,Za,Zb,ae,g4,g5,t4,t5];refine⟨ha,?_⟩;generalize az (aB Y ⟨b4,0,ZU⟩ [Z8 ZY 0,Z8 ZY 0]) ⟨b5,0,ZU⟩ (Z5 ZT)=Z at kk yb UI⊢;have:=fin 0 0 ZT (bR (bR (bR (fun _=>undef) 4 (Z7 (ZV ⟨b4,0,ZU⟩))) 5 (Z7 (ZV ⟨b5,0,ZU⟩))) 134 (g2' 134)) Z (by rfl) (by rfl) (by simp only[go_sem,Za,Zb,ae];exact hnd) (by
   simp only[go_sem,Za,Zb,ae];intro p hp;obtain⟨p1,p2⟩:=hmk p hp;have hlt:=(Array.getElem?_eq_some_iff.1 p2).1;exact⟨p1,by rw[kk.at_ p hlt (by omega)];exact p2⟩) yb UI ((KA.any.trans KY).trans kk) (hR1 0 0 (by unfold eY;rw[fD,fS,fM]))
  simpa only[oy,go_sem,Za,Zb,ae]using this
def Rr (V:aH):S:=
 (kY [kA 25 1,kP 26 2 1 7 0,kD 27 26,kI 28 1 25 27,kD 29 28,kU 30 (.cm .neq ZY (.t 29) (.c (Z8 ZY 0))),kF 31 30,kS 32 31 ZT 1,kT 33 31 ZT (.ia 2 1 (.v 7) (.c (Z8 ZY 0))),kT 34 31 ZT (.ld (.t 33)),kT 35 31 ZT (.is 1 (.t 32) (.t 34)),kT 36 31 ZT (.ld (.t 35)),kS 37 31 ZT 1,kT 38 31 ZT (.ia 2 1 (.v 7) (.c (Z8 ZY 1))),kT 39 31 ZT (.ld (.t 38)),kT 40 31 ZT (.is 1 (.t 37) (.t 39)),kT 41 31 ZT (.ld (.t 40)),kT 42 31 ZT (.cm .eql ZY (.t 36) (.t 41)),kV 43 (.pick (.t 31) (.t 42) (.c (Z5 ZS)))] (.ite (.v 43) (kY [kA 44 6,kC 4 (Z8 ZY 1),kB 5 44] .ret) .skip))
def Rs (V:aH):S:=
 (kY [kA 54 1,kP 55 2 1 9 0,kD 56 55,kI 57 1 54 56,kD 58 57,kU 59 (.cm .neq ZY (.t 58) (.c (Z8 ZY 0))),kF 60 59,kS 61 60 ZT 1,kT 62 60 ZT (.ia 2 1 (.v 9) (.c (Z8 ZY 1))),kT 63 60 ZT (.ld (.t 62)),kT 64 60 ZT (.is 1 (.t 61) (.t 63)),kT 65 60 ZT (.ld (.t 64)),kT 66 60 ZT (.cm .neq ZY (.t 65) (.c (Z8 ZY 0))),kJ 67 60 66,kF 68 67,kS 69 68 ZT 1,kT 70 68 ZT (.ia 2 1 (.v 9) (.c (Z8 ZY 0))),kT 71 68 ZT (.ld (.t 70)),kT 72 68 ZT (.is 1 (.t 69) (.t 71)),kT 73 68 ZT (.ld (.t 72)),kS 74 68 ZT 1,kT 75 68 ZT (.ia 2 1 (.v 9) (.c (Z8 ZY 1))),kT 76 68 ZT (.ld (.t 75)),kT 77 68 ZT (.is 1 (.t 74) (.t 76)),kT 78 68 ZT (.ld (.t 77)),kT 79 68 ZT (.cm .neq ZY (.t 73) (.t 78)),kV 80 (.pick (.t 68) (.t 79) (.c (Z5 ZS)))] (.ite (.v 80) (kY [kA 81 8,kC 4 (Z8 ZY 2),kB 5 81] .ret) .skip))
def Rt (V:aH):S:=
 (kY [kA 104 13,kU 105 (.cm .neq ZY (.t 104) (.c (Z8 ZY 0))),kF 106 105,kS 107 106 ZT 16,kS 108 106 ZT 13,kT 109 106 ZT (.cm .eql ZY (.t 107) (.t 108)),kJ 110 106 109,kF 111 110,kT 112 111 ZT (.fa 1 (.v 11)),kT 113 111 ZT (.ld (.t 112)),kS 114 111 ZT 15,kT 115 111 ZT (.sh .shr ZW (.t 113) (.t 114)),kT 116 111 ZT (.dv .rem ZW (.t 115) (.c (Z8 ZW 2))),kT 117 111 ZT (.cm .eql ZW (.t 116) (.c (Z8 ZW 1))),kV 118 (.pick (.t 111) (.t 117) (.c (Z5 ZS)))] (.ite (.v 118) (.reg [kA 119 14,kU 120 (.ar .add ZY (.t 119) (.c (Z8 ZY 1))),kB 14 120]) .skip))
def Ru (V:aH):S:=
 (kY [kC 14 (Z8 ZY 0)] (.seq (kY [kV 97 (.mv (.v 1)),kO 98 97,kC 99 (Z8 ZY 0)] (.blk 8 (.loop (kY [kH 100 99 98] (.seq (.ite (.v 100) .skip (.exit 8)) (.seq (.blk 9 (kY [kA 101 99,kK 102 1 97 99,kD 103 102,kB 15 101,kB 16 103] (Rt V))) (.reg [ke 121 99,kB 99 121]))))))) (kY [kA 122 14,kG 123 0 11,kD 124 123,kV 125 (.cm .gtr ZY (.t 122) (.t 124))] (.ite (.v 125) (kY [kA 126 10,kC 4 (Z8 ZY 3),kB 5 126] .ret) .skip))))
def Ip (V:aH):S:=
 kY [kR 2 (V.t 289) 0,kC 4 (Z8 ZY 0),kC 5 (Z8 ZY 0)] (.seq (kY [kG 17 2 2,kV 18 (.ld (.t 17)),kO 19 18,kC 20 (Z8 ZY 0)] (.blk 0 (.loop (kY [kH 21 20 19] (.seq (.ite (.v 21) .skip (.exit 0)) (.seq (.blk 1 (kY [kA 22 20,kK 23 2 18 20,kN 24 2 23,kd 7 (.new (V.t 194) #[Z8 ZY 0,Z8 ZY 0]),kB 6 22,kf (.stn 2 (.v 7) (.t 24))] (Rr V))) (.reg [ke 45 20,kB 20 45]))))))) (.seq (kY [kG 46 3 2,kV 47 (.ld (.t 46)),kO 48 47,kC 49 (Z8 ZY 0)] (.blk 2 (.loop (kY [kH 50 49 48] (.seq (.ite (.v 50) .skip (.exit 2)) (.seq (.blk 3 (kY [kA 51 49,kK 52 2 47 49,kN 53 2 52,kd 9 (.new (V.t 194) #[Z8 ZY 0,Z8 ZY 0]),kB 8 51,kf (.stn 2 (.v 9) (.t 53))] (Rs V))) (.reg [ke 82 49,kB 49 82]))))))) (.seq (kY [kG 83 4 2,kV 84 (.ld (.t 83)),kO 85 84,kC 86 (Z8 ZY 0)] (.blk 4 (.loop (kY [kH 87 86 85] (.seq (.ite (.v 87) .skip (.exit 4)) (.seq (.blk 5 (kY [kA 88 86,kK 89 2 84 86,kN 90 2 89,kd 11 (.new (V.t 291) #[Z8 ZY 0,Z8 ZW 0]),kB 10 88,kf (.stn 2 (.v 11) (.t 90))] (kY [kV 91 (.mv (.v 1)),kO 92 91,kC 93 (Z8 ZY 0)] (.blk 6 (.loop (kY [kH 94 93 92] (.seq (.ite (.v 94) .skip (.exit 6)) (.seq (.blk 7 (kY [kK 95 1 91 93,kD 96 95,kB 13 96] (Ru V))) (.reg [ke 127 93,kB 93 127]))))))))) (.reg [ke 128 86,kB 86 128]))))))) (kY [kC 4 (Z8 ZY 0),kC 5 (Z8 ZY 0)] .ret))))
def Iq:List RV:=[.t 4,.t 5]
def afS {cc:Nat} {w:Int} (h11:f 11=Z7 (ZV ⟨bp,0,ZU⟩)) (h13:f 13=Z8 ZY u) (h14:f 14=Z8 ZY (cc:Int)) (h15:f 15=Z8 ZY (i:Int)) (h16:f 16=Z8 ZY w)
  (B:Bl A bp [Z8 ZY K,Z8 ZW m.toNat]) (hi:i<64) (hc:cc<=1000)
  (hK:∀f',(∀j,j∉[14,118]->f' j=f j)->f' 14=Z8 ZY ((cc+if u≠0/\w=u/\bt m i=ZT then 1 else 0:Nat):Int)->Qb .n f' A):vc P (Rt V) Qb f A:=by
 unfold Rt kA kB kF kJ kS kT kU kV kY;have c1:cell A ⟨bp,1,ZU⟩=ZV (Z8 ZW m.toNat):=by rw[B.cell];rfl
 have keep1:∀(z:ZR),∀j,j∉[14,118]->bR f 118 z j=f j:=fun z j hj=>by
  simp only[YW,Zk,or_false,not_or]at hj;simp only[bR,hj.2,if_false]
 have Qc:∀(z y:ZR),∀j,j∉[14,118]->bR (bR f 118 z) 14 y j=f j:=fun z y j hj=>by
  simp only[YW,Zk,or_false,not_or]at hj;simp only[bR,hj.1,hj.2,if_false]
 by_cases e1:u=0
 ·have d1:(u !=0)=ZS:=by rw[e1];rfl
  simp only[go_sem,Za,Zb,ae,h11,h13,h14,h15,h16,d1];exact hK _ (keep1 _) (by simp only[go_sem,Za,Zb,ae,h14];simp[e1])
 have d1:(u !=0)=ZT:=bne_iff_ne.2 e1
 by_cases e2:w=u
 ·have d2:(w==u)=ZT:=by simp[e2]
  have hb:=AZ m i
  cases hbt:bt m i with
  |true=>
   rw[hbt]at hb;simp only[go_sem,Za,Zb,ae,h11,h13,h14,h15,h16,d1,d2,c1,hb,al];have w1:IntKind.i64.wrap ((cc:Int)+1)=((cc+1:Nat):Int):=by rw[ZN _ (by omega)];omega
   rw[w1];exact⟨by omega,by decide,hK _ (Qc _ _) (by simp only[go_sem,Za,Zb,ae];simp[e1,e2,hbt])⟩
  |false=>
   rw[hbt]at hb;simp only[go_sem,Za,Zb,ae,h11,h13,h14,h15,h16,d1,d2,c1,hb,al];exact⟨by omega,by decide,hK _ (keep1 _) (by simp only[go_sem,Za,Zb,ae,h14];simp[hbt])⟩
 ·have d2:(w==u)=ZS:=by simp[e2]
  simp only[go_sem,Za,Zb,ae,h11,h13,h14,h15,h16,d1,d2];exact hK _ (keep1 _) (by simp only[go_sem,Za,Zb,ae,h14];simp[e2])
def Rv (st:List Int) (K:Int) (m:UInt64) (u:Int):Prop:=u≠0/\K<(E1 st m u st.length:Int)
def Ff:iX st (K,m)=ZT↔∃j,∃h:j<st.length,Rv st K m st[j]:=by
 unfold iX Rv;rw[List.any_eq_true]
 constructor
 ·rintro⟨u,hu,h⟩;obtain⟨j,hj,rfl⟩:=ZC hu;simp only[ZJ,decide_eq_true_eq]at h;exact⟨j,hj,h⟩
 ·rintro⟨j,hj,h⟩;exact⟨st[j],ZL hj,by simpa using h⟩
def Rw (st:List Int) (m:UInt64) (u:Int) (i:Nat):E1 st m u (i+1)=E1 st m u i+if bt m i=ZT/\st.getD i 0=u then 1 else 0:=by
 unfold E1;rw[bK];simp only[ZJ,decide_eq_true_eq]
def afT (h1:f 1=sv) (h10:f 10=Z8 ZY (i:Int)) (h11:f 11=Z7 (ZV ⟨bp,0,ZU⟩)) (h13:f 13=Z8 ZY u)
  (B:Bl A bp [Z8 ZY K,Z8 ZW m.toNat]) (hs:aP A sv (iL st)) (hl:st.length<=10) (hK1:1<=K)
  (hR:Rv st K m u->∀f',f' 4=Z8 ZY 3->f' 5=Z8 ZY (i:Int)->Qb .r f' A)
  (hN:¬Rv st K m u->∀f',Qb .n f' A):vc P (Ru V) Qb f A:=by
 unfold Ru kA kB kC kD ke kG kH kK kO kV kY;have c0:cell A ⟨bp,0,ZU⟩=ZV (Z8 ZY K):=by rw[B.cell];rfl
 have hlen:aW sv=st.length:=by rw[hs.len,aA]
 simp only[go_sem,Za,Zb,ae,h1,hs.aq,hlen];refine aF st.length [100,15,16,118,14,99] rfl rfl (by omega) (by rfl) (by rfl) (fun k g A'=>g 14=Z8 ZY ((if u=0 then 0 else E1 st m u k:Nat):Int)/\A'=A) ⟨by simp only[go_sem,Za,Zb,ae];unfold E1;simp[cn],rfl⟩ ?_ ?_
 ·rintro k g A' hk gi gn ⟨g14,rfl⟩;simp only[go_sem,Za,Zb,ae]at gi gn g14;have hne:iL st≠[]:=fun h=>by have:=congrArg Y8 h;rw[aA,Zx]at this;omega
  obtain⟨sb,so,sc,rfl,hsc,hcell⟩:=hs.cells hne;have c1:=hcell k (by rw[aA];exact hk);rw[dM _ _ hk]at c1;simp only[go_sem,Za,Zb,ae,gi,al,aA,c1];refine⟨by omega,?_⟩;have hle:E1 st m u k<=10:=Zp (lN _ _) (by omega);refine afS (i:=k) (cc:=if u=0 then 0 else E1 st m u k) (u:=u) (w:=st.getD k 0) (K:=K) (m:=m) (by simp only[go_sem,Za,Zb,ae,h11]) (by simp only[go_sem,Za,Zb,ae,h13]) (by simp only[go_sem,Za,Zb,ae,g14]) (by rfl) (by rfl) B (by omega) (by split<;>omega) fun f' yQ h14=>?_;simp only[go_sem,Za,Zb,ae];rw[h14]
  congr 2
  by_cases e0:u=0
  ·simp[e0]
  ·rw[Rw];simp[e0,and_comm]
 ·rintro g A' gi ⟨g14,rfl⟩;simp only[go_sem,Za,Zb,ae]at g14
  by_cases e0:u=0
  ·have d1:ZQ ((0:Int)>K)=ZS:=decide_eq_false (by omega);have akY:g 14=Z8 ZY 0:=by rw[g14,if_pos e0];rfl
   simp only[go_sem,Za,Zb,ae,akY,h11,c0,d1];exact hN (fun h=>h.1 e0) _
  ·rw[if_neg e0]at g14
   by_cases e1:(E1 st m u st.length:Int)>K
   ·have d1:ZQ ((E1 st m u st.length:Int)>K)=ZT:=decide_eq_true e1;simp only[go_sem,Za,Zb,ae,g14,h10,h11,c0,d1];exact hR ⟨e0,by omega⟩ _ (by rfl) (by rfl)
   ·have d1:ZQ ((E1 st m u st.length:Int)>K)=ZS:=decide_eq_false e1;simp only[go_sem,Za,Zb,ae,g14,h11,c0,d1];exact hN (fun h=>e1 (by have:=h.2;omega)) _
def afU (h1:f 1=sv) (h6:f 6=Z8 ZY (i:Int)) (h7:f 7=Z7 (ZV ⟨b7,0,ZU⟩))
  (B7:Bl A b7 (pE x)) (hs:aP A sv (iL st)) (hn:st.length=n) (hx:kj (n:Int) x)
  (hT:gC st x=ZT->∀f',f' 4=Z8 ZY 1->f' 5=Z8 ZY (i:Int)->Qb .r f' A) (hF:gC st x=ZS->∀f',Qb .n f' A):vc P (Rr V) Qb f A:=by
 unfold Rr kA kB kF kC kD kI kP kS kT kU kV kY;obtain⟨x1,x2,x3,x4⟩:=hx;have uf:cell A ⟨b7,0,ZU⟩=ZV (Z8 ZY x.1):=by rw[B7.cell];rfl
 have ug:cell A ⟨b7,1,ZU⟩=ZV (Z8 ZY x.2):=by rw[B7.cell];rfl
 obtain⟨sb,so,sc,rfl,k1⟩:=bU hs x1 (by omega);obtain⟨sb',so',sc',e,k2⟩:=bU hs x3 (by omega);simp only[Value.slice.injEq,Option.some.injEq,Addr.mk.injEq,true_and,and_true]at e;obtain⟨⟨rfl,rfl⟩,rfl⟩:=e
 by_cases e1:sI st x.1=0
 ·have d1:(sI st x.1 !=0)=ZS:=by rw[e1];rfl
  simp-implicitDefEqProofs only[go_sem,↓reduceIte,Za,Zb,Zc,reduceCtorEq,ae,Zf,Zg,Zh,Zi,Zd,Ze,h1,h7,uf,ug,k1,k2,d1];refine⟨by omega,hF ?_ _⟩;simp[gC,e1]
 have d1:(sI st x.1 !=0)=ZT:=bne_iff_ne.2 e1
 by_cases e2:sI st x.1=sI st x.2
 ·have d2:(sI st x.1==sI st x.2)=ZT:=by rw[e2];simp
  simp-implicitDefEqProofs only[go_sem,↓reduceIte,Za,Zb,Zc,reduceCtorEq,ae,Zf,Zg,Zh,Zi,Zd,Ze,h1,h6,h7,uf,ug,k1,k2,d1,d2];refine⟨by omega,by omega,by omega,hT ?_ _ (by rfl) (by rfl)⟩;simp only[gC,ZJ,decide_eq_true_eq];exact⟨e1,e2⟩
 ·have d2:(sI st x.1==sI st x.2)=ZS:=by simp[e2]
  simp-implicitDefEqProofs only[go_sem,↓reduceIte,Za,Zb,Zc,reduceCtorEq,ae,Zf,Zg,Zh,Zi,Zd,Ze,h1,h7,uf,ug,k1,k2,d1,d2];refine⟨by omega,by omega,by omega,hF ?_ _⟩;simp[gC,e2]
def afV (h1:f 1=sv) (h6:f 8=Z8 ZY (i:Int)) (h7:f 9=Z7 (ZV ⟨b7,0,ZU⟩))
  (B7:Bl A b7 (pE x)) (hs:aP A sv (iL st)) (hn:st.length=n) (hx:kj (n:Int) x)
  (hT:fq st x=ZT->∀f',f' 4=Z8 ZY 2->f' 5=Z8 ZY (i:Int)->Qb .r f' A) (hF:fq st x=ZS->∀f',Qb .n f' A):vc P (Rs V) Qb f A:=by
 unfold Rs kA kB kF kC kD kI kJ kP kS kT kU kV kY;obtain⟨x1,x2,x3,x4⟩:=hx;have uf:cell A ⟨b7,0,ZU⟩=ZV (Z8 ZY x.1):=by rw[B7.cell];rfl
 have ug:cell A ⟨b7,1,ZU⟩=ZV (Z8 ZY x.2):=by rw[B7.cell];rfl
 obtain⟨sb,so,sc,rfl,k1⟩:=bU hs x1 (by omega);obtain⟨sb',so',sc',e,k2⟩:=bU hs x3 (by omega);simp only[Value.slice.injEq,Option.some.injEq,Addr.mk.injEq,true_and,and_true]at e;obtain⟨⟨rfl,rfl⟩,rfl⟩:=e
 by_cases e1:sI st x.1=0
 ·have d1:(sI st x.1 !=0)=ZS:=by rw[e1];rfl
  simp-implicitDefEqProofs only[go_sem,↓reduceIte,Za,Zb,Zc,reduceCtorEq,ae,Zf,Zg,Zh,Zi,Zd,Ze,h1,h7,uf,ug,k1,k2,d1];refine⟨by omega,hF ?_ _⟩;simp[fq,e1]
 have d1:(sI st x.1 !=0)=ZT:=bne_iff_ne.2 e1
 by_cases e0:sI st x.2=0
 ·have d0:(sI st x.2 !=0)=ZS:=by rw[e0];rfl
  simp-implicitDefEqProofs only[go_sem,↓reduceIte,Za,Zb,Zc,reduceCtorEq,ae,Zf,Zg,Zh,Zi,Zd,Ze,h1,h7,uf,ug,k1,k2,d1,d0];refine⟨by omega,by omega,hF ?_ _⟩;simp[fq,e0]
 have d0:(sI st x.2 !=0)=ZT:=bne_iff_ne.2 e0
 by_cases e2:sI st x.1=sI st x.2
 ·have d2:(sI st x.1 !=sI st x.2)=ZS:=by rw[e2];simp
  simp-implicitDefEqProofs only[go_sem,↓reduceIte,Za,Zb,Zc,reduceCtorEq,ae,Zf,Zg,Zh,Zi,Zd,Ze,h1,h7,uf,ug,k1,k2,d1,d0,d2];refine⟨by omega,by omega,by omega,by omega,hF ?_ _⟩;simp[fq,e2]
 ·have d2:(sI st x.1 !=sI st x.2)=ZT:=bne_iff_ne.2 e2;simp-implicitDefEqProofs only[go_sem,↓reduceIte,Za,Zb,Zc,reduceCtorEq,ae,Zf,Zg,Zh,Zi,Zd,Ze,h1,h6,h7,uf,ug,k1,k2,d1,d0,d2];refine⟨by omega,by omega,by omega,by omega,hT ?_ _ (by rfl) (by rfl)⟩;simp only[fq,ZJ,decide_eq_true_eq];exact⟨⟨e1,e0⟩,e2⟩
def qD (P:Program) (k:FuncId):Prop:=∀(F:cf) (v sv:ZR) (st:List Int) (H:Hp),dF H v F->Good F->aP H sv (iL st)->st.length=F.st.length->an P k #[v,sv] H fun r H'=>r=ZZ #[Z8 ZY ((eY F st).1:Int),Z8 ZY ((eY F st).2:Int)]/\af (fun _=>False) H H'
def abx (hk:ak P k (Ip V) Iq 2):qD P k:=by
 intro F v sv st H hv hG hst hl;have su:=hG.lim;unfold iJ at su;obtain⟨s,b,d,a,m,rfl,h1,h2,h3,h4,h5⟩:=hv;refine qI fun Q hQ=>?_;refine ah hk (args:=[_,_]) (by simp) ?_;unfold Ip Iq kA kB kC kD ke kG kH kK kN kO kR kV kd kf kY;simp only[go_sem,Za,Zb];refine ax fun H1 b2 e1 z1 B1 K1=>?_;have bL:Bl H1 b2 [s,b,d,a,m]:=B1;have hdi:∀j,(hj:j<F.di.length)->kj (F.st.length:Int) F.di[j]:=fun j hj=>(hG.di _ (ZL hj)).1;have UF:∀j,(hj:j<F.sa.length)->kj (F.st.length:Int) F.sa[j]:=fun j hj=>(hG.sa _ (ZL hj)).1;have hmo:∀j,(hj:j<F.mo.length)->1<=F.mo[j].1:=fun j hj=>by
  have:=hG.mo _ (ZL hj);unfold pk at this
  split at this
  ·omega
  ·next h=>omega
 have fin:∀(x y:Nat) A',af (fun _=>False) H1 A'->eY F st=(x,y)->Q (ZZ #[Z8 ZY (x:Int),Z8 ZY (y:Int)]) A':=fun x y A' K h=>by
  rw[hQ];exact⟨by rw[h],K1.trans K⟩
 have c2:cell H1 ⟨b2,2,ZU⟩=ZV d:=by rw[bL.cell];rfl
 simp only[go_sem,Za,Zb,ae,c2,h3.aq,h3.len];refine aF F.di.length [21,7,6,43,4,5,20] rfl rfl (by omega) (by rfl) (by rfl) (fun i g X=>(∀j,(hj:j<F.di.length)->j<i->gC st F.di[j]=ZS)/\af (fun _=>False) H1 X) ⟨fun j _ h=>by omega,af.refl _ _⟩ ?_ ?_
 ·rintro i g X hi gi gn ⟨hp,KX⟩;simp only[go_sem,Za,Zb,ae]at gi gn;have lP:=K1.trans KX;obtain⟨pb,po,pc,fT,oz,hld⟩:=(h3.aj lP).elem (enc:=pE) (k:=2) (fun _=>rfl) hi;obtain⟨y,hy⟩:∃y,y=F.di[i]:=⟨_,rfl⟩
  rw[<-hy]at hld;have dm:aQ X ⟨pb,po+i*2,ZU⟩ 2=ZV #[Z8 ZY y.1,Z8 ZY y.2]:=hld;simp only[go_sem,Za,Zb,gi,fT,al,aC,dm];refine⟨by omega,?_⟩;refine cG [Z8 ZY y.1,Z8 ZY y.2] (Z8 ZY (i:Int)) rfl (by rfl) (by rfl) rfl rfl rfl fun A1 b7 e7 z7 B7 K7=>?_;simp only[go_sem,Za,Zb,ae];refine afU (i:=i) (x:=y) (st:=st) (by rfl) (by rfl) (by rfl) B7 ((hst.ai lP (by simp)).ai K7 (by simp)) hl (by rw[hy];exact hdi i hi) (fun hh g' r4 r5=>?_) (fun hh g'=>?_)
  ·simp only[go_sem,Za,Zb,ae,r4,r5];refine fin 1 i A1 (KX.trans K7) ?_;unfold eY;rw[sC hi (by rw[<-hy];exact hh) hp]
  ·simp only[go_sem,Za,Zb,ae];exact⟨gZ hi (by rw[<-hy];exact hh) hp,KX.trans K7⟩
 rintro g X gi ⟨UJ,KX⟩;have fD:F.di.findIdx? (gC st)=ZU:=nN fun j hj=>UJ j hj hj;have c3:cell X ⟨b2,3,ZU⟩=ZV a:=by rw[(KX.bl bL id).cell];rfl
 simp only[go_sem,Za,Zb,ae,c3,h4.aq,h4.len];refine aF F.sa.length [50,9,8,80,4,5,49] rfl rfl (by omega) (by rfl) (by rfl) (fun i g X=>(∀j,(hj:j<F.sa.length)->j<i->fq st F.sa[j]=ZS)/\af (fun _=>False) H1 X) ⟨fun j _ h=>by omega,KX⟩ ?_ ?_
 ·clear KX UJ gi c3;rintro i g1 X hi gi gn ⟨hp,KX⟩;simp only[go_sem,Za,Zb,ae]at gi gn;have lP:=K1.trans KX;obtain⟨pb,po,pc,fT,oz,hld⟩:=(h4.aj lP).elem (enc:=pE) (k:=2) (fun _=>rfl) hi;obtain⟨y,hy⟩:∃y,y=F.sa[i]:=⟨_,rfl⟩
  rw[<-hy]at hld;have dm:aQ X ⟨pb,po+i*2,ZU⟩ 2=ZV #[Z8 ZY y.1,Z8 ZY y.2]:=hld;simp only[go_sem,Za,Zb,gi,fT,al,aC,dm];refine⟨by omega,?_⟩;refine cG [Z8 ZY y.1,Z8 ZY y.2] (Z8 ZY (i:Int)) rfl (by rfl) (by rfl) rfl rfl rfl fun A1 b7 e7 z7 B7 K7=>?_;simp only[go_sem,Za,Zb,ae];refine afV (i:=i) (x:=y) (st:=st) (by rfl) (by rfl) (by rfl) B7 ((hst.ai lP (by simp)).ai K7 (by simp)) hl (by rw[hy];exact UF i hi) (fun hh g' r4 r5=>?_) (fun hh g'=>?_)
  ·simp only[go_sem,Za,Zb,ae,r4,r5];refine fin 2 i A1 (KX.trans K7) ?_;unfold eY;rw[fD,sC hi (by rw[<-hy];exact hh) hp]
  ·simp only[go_sem,Za,Zb,ae];exact⟨gZ hi (by rw[<-hy];exact hh) hp,KX.trans K7⟩
 clear KX c3;rintro g1 X gi1 ⟨NW,KX⟩;have fS:F.sa.findIdx? (fq st)=ZU:=nN fun j hj=>NW j hj hj;have c4:cell X ⟨b2,4,ZU⟩=ZV m:=by rw[(KX.bl bL id).cell];rfl
 simp only[go_sem,Za,Zb,ae,c4,h5.aq,h5.len];refine aF F.mo.length [87,11,10,91,92,93,94,13,14,97,98,99,100,15,16,118,125,4,5,86] rfl rfl (by omega) (by rfl) (by rfl) (fun i g X=>(∀j,(hj:j<F.mo.length)->j<i->iX st F.mo[j]=ZS)/\af (fun _=>False) H1 X) ⟨fun j _ h=>by omega,KX⟩ ?_ ?_
 ·clear KX c4 NW gi1;rintro i g2' X hi gi gn ⟨hp,KX⟩;simp only[go_sem,Za,Zb,ae]at gi gn;have lP:=K1.trans KX;obtain⟨pb,po,pc,fT,oz,hld⟩:=(h5.aj lP).elem qt hi;obtain⟨y,hy⟩:∃y,y=F.mo[i]:=⟨_,rfl⟩
  rw[<-hy]at hld;have dm:aQ X ⟨pb,po+i*2,ZU⟩ 2=ZV #[Z8 ZY y.1,Z8 ZW y.2.toNat]:=hld;simp only[go_sem,Za,Zb,gi,fT,al,aC,dm];refine⟨by omega,?_⟩;refine cG [Z8 ZY y.1,Z8 ZW y.2.toNat] (Z8 ZY (i:Int)) rfl (by rfl) (by rfl) rfl rfl rfl fun A1 bp ep zp Bp Kp=>?_;have KHA:=lP.trans Kp;have hsA:=hst.ai KHA (by simp);have hlen:aW sv=st.length:=by rw[hst.len,aA]
  simp only[go_sem,Za,Zb,ae,hst.aq,hlen];refine aF st.length [94,13,14,97,98,99,100,15,16,118,125,4,5,93] rfl rfl (by omega) (by rfl) (by rfl) (fun k g A=>(∀j,(hj:j<st.length)->j<k->¬Rv st y.1 y.2 st[j])/\A=A1) ⟨fun j _ h=>by omega,rfl⟩ ?_ ?_
  ·rintro k g3 A hk gk gkn ⟨hq,rfl⟩;simp only[go_sem,Za,Zb,ae]at gk gkn;have hne:iL st≠[]:=fun h=>by have:=congrArg Y8 h;rw[aA,Zx]at this;omega
   obtain⟨sb,so,sc,rfl,hsc,hcell⟩:=hsA.cells hne;have c1:=hcell k (by rw[aA];exact hk);rw[dM _ _ hk]at c1;have hgk:st.getD k 0=st[k]:=by rw[ZP,ZO hk];rfl
   rw[hgk]at c1;simp only[go_sem,Za,Zb,ae,gk,al,aA,c1];refine⟨by omega,?_⟩;refine afT (i:=i) (u:=st[k]) (K:=y.1) (m:=y.2) (st:=st) (by simp only[go_sem,Za,Zb,ae];rw[aA]) (by rfl) (by rfl) (by rfl) Bp hsA (by omega) (by rw[hy];exact hmo i hi) (fun hh g' r4 r5=>?_) (fun hh g'=>?_)
   ·simp only[go_sem,Za,Zb,ae,r4,r5];refine fin 3 i A (KX.trans Kp) ?_;unfold eY;rw[fD,fS];simp only;rw[sC hi (by rw[<-hy];exact Ff.2 ⟨k,hk,hh⟩) hp]
   ·simp only[go_sem,Za,Zb,ae];intro j hj hlt
    by_cases e:j=k
    ·subst e;exact hh
    ·exact hq j hj (by omega)
  ·rintro g3 A gk ⟨hq,rfl⟩;simp only[go_sem,Za,Zb,ae];refine⟨gZ hi ?_ hp,KX.trans Kp⟩;rw[<-hy];apply Bool.eq_false_iff.2;intro h;obtain⟨j,hj,hh⟩:=Ff.1 h;exact hq j hj hj hh
 ·rintro g2' Y gi2 ⟨hpM,KY⟩;have fM:F.mo.findIdx? (iX st)=ZU:=nN fun j hj=>hpM j hj hj;simp only[go_sem,Za,Zb,ae];exact fin 0 0 Y KY (by unfold eY;rw[fD,fS,fM])
end Go.Mg
