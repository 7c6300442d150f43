/- Lemmas of ours. No conditions. -/
import Derived.Test.YteeemadonfcliabGreatDoorMgV9
open Nat renaming reduceEqDiff→Za,reduceAdd→Zb,reduceMul→Zc,reduceLeDiff→Zd,reduceLT→Ze
open Int renaming reduceBEq→Zf,reduceBNe→Zg,reduceLE→Zh,reduceLT→Zi
set_option linter.all false
set_option maxRecDepth 100000
namespace Go.Mg
open Go Go.RowKit
def CP (ι:aC):S:=
 kY [kC 2 (.int .i64 0)] (.seq (kY [kA 5 0,kL 6 5,kV 7 (.cm .lss .i64 (.t 6) (.c (.int .i64 1)))] (.ite (.v 7) (.reg [kU 8 (.m (.mif (ι.t 67) (.c (.string ⟨#[115,108,105,99,101,115,46,77,105,110,58,32,101,109,112,116,121,32,108,105,115,116]⟩)))),kf .bad]) .skip)) (kY [kA 9 0,kU 10 (.is 1 (.t 9) (.c (.int .i64 0))),kD 11 10,kB 3 11] (.seq (kY [kC 4 (.int .i64 1)] (.blk 0 (.loop (.seq (kY [kA 12 4,kA 13 0,kL 14 13,kV 15 (.cm .lss .i64 (.t 12) (.t 14))] (.ite (.v 15) .skip (.exit 0))) (.seq (.blk 1 (.reg [kA 18 3,kA 19 0,kA 20 4,kI 21 1 19 20,kD 22 21,kU 23 (.m (.mn (.t 18) (.t 22))),kB 3 23])) (.reg [kA 16 4,kU 17 (.ar .add .i64 (.t 16) (.c (.int .i64 1))),kB 4 17])))))) (kY [kA 24 3,kB 2 24] .ret))))
def CQ:List RV:=[.t 2]
def CR (ι:aC):S:=
 kY [kC 2 (.int .i64 0)] (.seq (kY [kA 5 0,kL 6 5,kV 7 (.cm .lss .i64 (.t 6) (.c (.int .i64 1)))] (.ite (.v 7) (.reg [kU 8 (.m (.mif (ι.t 67) (.c (.string ⟨#[115,108,105,99,101,115,46,77,97,120,58,32,101,109,112,116,121,32,108,105,115,116]⟩)))),kf .bad]) .skip)) (kY [kA 9 0,kU 10 (.is 1 (.t 9) (.c (.int .i64 0))),kD 11 10,kB 3 11] (.seq (kY [kC 4 (.int .i64 1)] (.blk 0 (.loop (.seq (kY [kA 12 4,kA 13 0,kL 14 13,kV 15 (.cm .lss .i64 (.t 12) (.t 14))] (.ite (.v 15) .skip (.exit 0))) (.seq (.blk 1 (.reg [kA 18 3,kA 19 0,kA 20 4,kI 21 1 19 20,kD 22 21,kU 23 (.m (.mx (.t 18) (.t 22))),kB 3 23])) (.reg [kA 16 4,kU 17 (.ar .add .i64 (.t 16) (.c (.int .i64 1))),kB 4 17])))))) (kY [kA 24 3,kB 2 24] .ret))))
def CS:List RV:=[.t 2]
def CT (ι:aC):S:=
 (kY [kM 19 5 2,kc 20 (kg (ι.f 312) [.t 19]),kU 21 (.not (.t 20)),kF 22 21,kT 23 22 false (.ld (.v 3)),kT 24 22 false (.m (.lenl (.t 23))),kT 25 22 false (.fa 0 (.v 2)),kT 26 22 false (.ld (.t 25)),kT 27 22 false (.m (.lenl (.t 26))),kT 28 22 false (.cm .neq .i64 (.t 24) (.t 27)),kU 29 (.pick (.t 22) (.c (.bool true)) (.t 28)),kF 30 29,kT 31 30 false (.ld (.v 3)),.ge (.t 32) (.t 30) false (kg (ι.f 316) [.t 31]),kT 33 30 false (.cm .lss .i64 (.t 32) (.c (.int .i64 0))),kU 34 (.pick (.t 30) (.c (.bool true)) (.t 33)),kF 35 34,kT 36 35 false (.ld (.v 3)),.ge (.t 37) (.t 35) false (kg (ι.f 317) [.t 36]),kT 38 35 false (.cm .gtr .i64 (.t 37) (.c (.int .i64 256))),kV 39 (.pick (.t 35) (.c (.bool true)) (.t 38))] (.ite (.v 39) (kY [kU 40 (.m (.gz #[.int .i64 0,.int .i64 0] [])),kf (.stn 2 (.v 4) (.t 40)),kf (.st (.v 5) (.c (.bool false)))] .ret) .skip))
def CU (ι:aC):S:=
 (kY [kU 49 (.ld (.v 3)),kP 50 2 1 7 0,kD 51 50,kI 52 1 49 51,kD 53 52,kU 54 (.ld (.v 3)),kP 55 2 1 7 1,kD 56 55,kI 57 1 54 56,kD 58 57,kB 8 53,kB 9 58] (kY [kA 59 8,kU 60 (.cm .neq .i64 (.t 59) (.c (.int .i64 0))),kF 61 60,kS 62 61 true 8,kS 63 61 true 9,kT 64 61 true (.cm .eql .i64 (.t 62) (.t 63)),kV 65 (.pick (.t 61) (.t 64) (.c (.bool false)))] (.ite (.v 65) (kY [kA 66 6,kU 67 (.m (.gz #[.int .i64 0,.int .i64 0] [(0,(1,.c (.int .i64 1))),(1,(1,.t 66))])),kf (.stn 2 (.v 4) (.t 67)),kf (.st (.v 5) (.c (.bool false)))] .ret) .skip)))
def CV (ι:aC):S:=
 (kY [kU 77 (.ld (.v 3)),kP 78 2 1 11 0,kD 79 78,kI 80 1 77 79,kD 81 80,kU 82 (.ld (.v 3)),kP 83 2 1 11 1,kD 84 83,kI 85 1 82 84,kD 86 85,kB 12 81,kB 13 86] (kY [kA 87 12,kU 88 (.cm .neq .i64 (.t 87) (.c (.int .i64 0))),kF 89 88,kS 90 89 true 13,kT 91 89 true (.cm .neq .i64 (.t 90) (.c (.int .i64 0))),kJ 92 89 91,kF 93 92,kS 94 93 true 12,kS 95 93 true 13,kT 96 93 true (.cm .neq .i64 (.t 94) (.t 95)),kV 97 (.pick (.t 93) (.t 96) (.c (.bool false)))] (.ite (.v 97) (kY [kA 98 10,kU 99 (.m (.gz #[.int .i64 0,.int .i64 0] [(0,(1,.c (.int .i64 2))),(1,(1,.t 98))])),kf (.stn 2 (.v 4) (.t 99)),kf (.st (.v 5) (.c (.bool false)))] .ret) .skip)))
def CW (ι:aC):S:=
 (.blk 7 (kY [kU 113 (.ld (.v 3)),kA 114 17,kI 115 1 113 114,kD 116 115,kB 18 116] (kY [kA 117 18,kV 118 (.cm .neq .i64 (.t 117) (.c (.int .i64 0)))] (.ite (.v 118) (kY [kA 119 18,kU 120 (.ia 257 1 (.v 16) (.t 119)),kD 121 120,kU 122 (.ar .add .i64 (.t 121) (.c (.int .i64 1))),kU 123 (.ia 257 1 (.v 16) (.t 119)),kf (.st (.t 123) (.t 122))] (.seq (.dr (kW 124 (.mv (.v 18)) (kW 125 (.ia 257 1 (.v 16) (.t 124)) (kW 126 (.ld (.t 125)) (kW 127 (.fa 0 (.v 15)) (kW 128 (.ld (.t 127)) (kX 129 (.cm .gtr .i64 (.t 126) (.t 128)) .done))))))) (.ite (.v 129) (kY [kU 130 (.ld (.v 14)),kU 131 (.m (.gz #[.int .i64 0,.int .i64 0] [(0,(1,.c (.int .i64 3))),(1,(1,.t 130))])),kf (.stn 2 (.v 4) (.t 131)),kf (.st (.v 5) (.c (.bool false)))] .ret) .skip))) .skip))))
def C0 (ι:aC):S:=
 (kY [kd 16 (.new (ι.t 319) (Array.replicate 257 (.int .i64 0)))] (kY [kG 109 1 15,kN 110 1 109,kd 111 (kg (ι.f 137) [.t 110])] (.blk 6 (.rf 134 (.v 111) 112 17 (CW ι)))))
def C6 (ι:aC):S:=
 kY [kR 2 (ι.t 296) 0,kR 3 (ι.t 138) 1,kd 4 (.new (ι.t 318) #[.int .i64 0,.int .i64 0]),kd 5 (.new (ι.t 151) #[.bool false])] (.seq (CT ι) (.seq (kY [kG 41 2 2,kV 42 (.ld (.t 41)),kO 43 42,kC 44 (.int .i64 0)] (.blk 0 (.loop (kY [kH 45 44 43] (.seq (.ite (.v 45) .skip (.exit 0)) (.seq (.blk 1 (kY [kA 46 44,kK 47 2 42 44,kN 48 2 47,kd 7 (.new (ι.t 194) #[.int .i64 0,.int .i64 0]),kB 6 46,kf (.stn 2 (.v 7) (.t 48))] (CU ι))) (.reg [ke 68 44,kB 44 68]))))))) (.seq (kY [kG 69 3 2,kV 70 (.ld (.t 69)),kO 71 70,kC 72 (.int .i64 0)] (.blk 2 (.loop (kY [kH 73 72 71] (.seq (.ite (.v 73) .skip (.exit 2)) (.seq (.blk 3 (kY [kA 74 72,kK 75 2 70 72,kN 76 2 75,kd 11 (.new (ι.t 194) #[.int .i64 0,.int .i64 0]),kB 10 74,kf (.stn 2 (.v 11) (.t 76))] (CV ι))) (.reg [ke 100 72,kB 72 100]))))))) (.seq (kY [kG 101 4 2,kV 102 (.ld (.t 101)),kO 103 102,kC 104 (.int .i64 0)] (.blk 4 (.loop (kY [kH 105 104 103] (.seq (.ite (.v 105) .skip (.exit 4)) (.seq (.blk 5 (kY [kA 106 104,kK 107 2 102 104,kN 108 2 107,kd 14 (.new (ι.t 26) #[.int .i64 0]),kd 15 (.new (ι.t 298) #[.int .i64 0,kZ]),kf (.st (.v 14) (.t 106)),kf (.stn 2 (.v 15) (.t 108))] (C0 ι))) (.reg [ke 132 104,kB 104 132]))))))) (kY [kU 133 (.m (.gz #[.int .i64 0,.int .i64 0] [])),kf (.stn 2 (.v 4) (.t 133)),kf (.st (.v 5) (.c (.bool true)))] .ret)))))
def Da:List RV:=[.cn 4 2,.c1 5]
def wT (P:Program) (k:FuncId):Prop:=∀(l:List Int) (v:Value) (H:Hp),aM H v (iL l)->l≠[]->l.length<=1000->ak P k #[v] H fun r H'=>(∃m,r=.int .i64 m/\(m<0↔∃u∈l,u<0))/\H'=H
def wU (P:Program) (k:FuncId):Prop:=∀(l:List Int) (v:Value) (H:Hp),aM H v (iL l)->l≠[]->l.length<=1000->ak P k #[v] H fun r H'=>(∃m,r=.int .i64 m/\(256<m↔∃u∈l,256<u))/\H'=H
variable {P:Program} {ι:aC} {k:FuncId} {A:Hp} {sv TF TG c5:Value} {st:List Int} {f:Fr} {b3 b4 b5 b7 i n:Nat} {x:eH} {Qb:Ex->Fr->Hp->Prop}
theorem OE (hk:an P k (CP ι) CQ 1):wT P k:=by
 intro l v H hv hne hl;refine qI fun Q hQ=>?_;refine ah hk (args:=[_]) (by simp) ?_;unfold CP CQ kA kB kC kD kI kL kU kV kf kY;have WY:0<l.length:=List.length_pos_iff.2 hne;obtain⟨b,o,c,Rk,hc,hcell⟩:=hv.cells (by simpa[iL]using hne);rw[aA]at Rk hcell;have hci:∀i,i<l.length->cell H ⟨b,o+i,none⟩=some (.int .i64 (l.getD i 0)):=fun i hi=>by rw[hcell i hi,du _ _ hi]
 have c0:=hci 0 WY;rw[Nat.add_zero]at c0;have d1:decide ((l.length:Int)<1)=false:=decide_eq_false (by omega);simp-implicitDefEqProofs only[go_sem,zS,↓reduceIte,Za,Zb,Zc,reduceCtorEq,ae,zU,zV,Zf,Zg,Zh,Zi,Zd,Ze,zF,Rk,d1,c0];refine⟨by omega,?_⟩;refine aP [15,3,4] rfl (fun m f A=>∃(i:Nat) (x:Int),1<=i/\i<=l.length/\m=l.length -i/\f 4=.int .i64 (i:Int)/\f 3=.int .i64 x/\(x<0↔∃j<i,l.getD j 0<0)/\A=H) (l.length -1) ?_ ?_
 ·exact⟨1,l.getD 0 0,by omega,WY,rfl,by simp-implicitDefEqProofs only[go_sem,zS,↓reduceIte,Za,Zb,Zc,reduceCtorEq,ae,zU,zV,Zf,Zg,Zh,Zi,Zd,Ze],by simp-implicitDefEqProofs only[go_sem,zS,↓reduceIte,Za,Zb,Zc,reduceCtorEq,ae,zU,zV,Zf,Zg,Zh,Zi,Zd,Ze],⟨fun h=>⟨0,by omega,h⟩,fun⟨j,hj,h⟩=>by rw[show j=0 by omega]at h;exact h⟩,rfl⟩
 rintro m f A ⟨i,x,h1,hi,rfl,f4,f3,hx,rfl⟩;simp-implicitDefEqProofs only[go_sem,zS,↓reduceIte,Za,Zb,Zc,reduceCtorEq,ae,zU,zV,Zf,Zg,Zh,Zi,Zd,Ze]at f4 f3;simp-implicitDefEqProofs only[go_sem,zS,↓reduceIte,Za,Zb,Zc,reduceCtorEq,ae,zU,zV,Zf,Zg,Zh,Zi,Zd,Ze,zF,f4];refine aH (fun hlt=>?_) (fun jt=>?_)
 ·have hlt:i<l.length:=by omega
  simp-implicitDefEqProofs (disch:=omega)only[go_sem,zS,↓reduceIte,Za,Zb,Zc,reduceCtorEq,ae,zU,zV,Zf,Zg,Zh,Zi,Zd,Ze,zF,f3,f4,aj,hci i hlt,kindOf,IntWalk.i64_in];refine⟨by omega,l.length -(i+1),by omega,i+1,_,by omega,by omega,rfl,rfl,rfl,?_⟩
  constructor
  ·intro h
   split at h
   ·exact⟨i,by omega,h⟩
   ·obtain⟨j,hj,hh⟩:=hx.1 h;exact⟨j,by omega,hh⟩
  ·rintro⟨j,hj,hh⟩
   by_cases e:j=i
   ·subst e;split<;>omega
   ·have:=hx.2 ⟨j,by omega,hh⟩
    split<;>omega
 ·have:i=l.length:=by omega
  subst this;simp-implicitDefEqProofs only[go_sem,zS,↓reduceIte,Za,Zb,Zc,reduceCtorEq,ae,zU,zV,Zf,Zg,Zh,Zi,Zd,Ze,f3];rw[hQ];refine⟨⟨x,rfl,hx.trans ⟨?_,?_⟩⟩,rfl⟩
  ·rintro⟨j,hj,h⟩;rw[List.getD_eq_getElem?_getD,List.getElem?_eq_getElem hj]at h;exact⟨_,List.getElem_mem hj,h⟩
  ·rintro⟨u,hu,h⟩;obtain⟨j,hj,rfl⟩:=List.getElem_of_mem hu;exact⟨j,hj,by rw[List.getD_eq_getElem?_getD,List.getElem?_eq_getElem hj];exact h⟩
theorem OF (hk:an P k (CR ι) CS 1):wU P k:=by
 intro l v H hv hne hl;refine qI fun Q hQ=>?_;refine ah hk (args:=[_]) (by simp) ?_;unfold CR CS kA kB kC kD kI kL kU kV kf kY;have WY:0<l.length:=List.length_pos_iff.2 hne;obtain⟨b,o,c,Rk,hc,hcell⟩:=hv.cells (by simpa[iL]using hne);rw[aA]at Rk hcell;have hci:∀i,i<l.length->cell H ⟨b,o+i,none⟩=some (.int .i64 (l.getD i 0)):=fun i hi=>by rw[hcell i hi,du _ _ hi]
 have c0:=hci 0 WY;rw[Nat.add_zero]at c0;have d1:decide ((l.length:Int)<1)=false:=decide_eq_false (by omega);simp-implicitDefEqProofs only[go_sem,zS,↓reduceIte,Za,Zb,Zc,reduceCtorEq,ae,zU,zV,Zf,Zg,Zh,Zi,Zd,Ze,zF,Rk,d1,c0];refine⟨by omega,?_⟩;refine aP [15,3,4] rfl (fun m f A=>∃(i:Nat) (x:Int),1<=i/\i<=l.length/\m=l.length -i/\f 4=.int .i64 (i:Int)/\f 3=.int .i64 x/\(256<x↔∃j<i,256<l.getD j 0)/\A=H) (l.length -1) ?_ ?_
 ·exact⟨1,l.getD 0 0,by omega,WY,rfl,by simp-implicitDefEqProofs only[go_sem,zS,↓reduceIte,Za,Zb,Zc,reduceCtorEq,ae,zU,zV,Zf,Zg,Zh,Zi,Zd,Ze],by simp-implicitDefEqProofs only[go_sem,zS,↓reduceIte,Za,Zb,Zc,reduceCtorEq,ae,zU,zV,Zf,Zg,Zh,Zi,Zd,Ze],⟨fun h=>⟨0,by omega,h⟩,fun⟨j,hj,h⟩=>by rw[show j=0 by omega]at h;exact h⟩,rfl⟩
 rintro m f A ⟨i,x,h1,hi,rfl,f4,f3,hx,rfl⟩;simp-implicitDefEqProofs only[go_sem,zS,↓reduceIte,Za,Zb,Zc,reduceCtorEq,ae,zU,zV,Zf,Zg,Zh,Zi,Zd,Ze]at f4 f3;simp-implicitDefEqProofs only[go_sem,zS,↓reduceIte,Za,Zb,Zc,reduceCtorEq,ae,zU,zV,Zf,Zg,Zh,Zi,Zd,Ze,zF,f4];refine aH (fun hlt=>?_) (fun jt=>?_)
 ·have hlt:i<l.length:=by omega
  simp-implicitDefEqProofs (disch:=omega)only[go_sem,zS,↓reduceIte,Za,Zb,Zc,reduceCtorEq,ae,zU,zV,Zf,Zg,Zh,Zi,Zd,Ze,zF,f3,f4,aj,hci i hlt,kindOf,IntWalk.i64_in];refine⟨by omega,l.length -(i+1),by omega,i+1,_,by omega,by omega,rfl,rfl,rfl,?_⟩
  constructor
  ·intro h
   split at h
   ·exact⟨i,by omega,h⟩
   ·obtain⟨j,hj,hh⟩:=hx.1 h;exact⟨j,by omega,hh⟩
  ·rintro⟨j,hj,hh⟩
   by_cases e:j=i
   ·subst e;split<;>omega
   ·have:=hx.2 ⟨j,by omega,hh⟩
    split<;>omega
 ·have:i=l.length:=by omega
  subst this;simp-implicitDefEqProofs only[go_sem,zS,↓reduceIte,Za,Zb,Zc,reduceCtorEq,ae,zU,zV,Zf,Zg,Zh,Zi,Zd,Ze,f3];rw[hQ];refine⟨⟨x,rfl,hx.trans ⟨?_,?_⟩⟩,rfl⟩
  ·rintro⟨j,hj,h⟩;rw[List.getD_eq_getElem?_getD,List.getElem?_eq_getElem hj]at h;exact⟨_,List.getElem_mem hj,h⟩
  ·rintro⟨u,hu,h⟩;obtain⟨j,hj,rfl⟩:=List.getElem_of_mem hu;exact⟨j,hj,by rw[List.getD_eq_getElem?_getD,List.getElem?_eq_getElem hj];exact h⟩
theorem cx (hs:aM A sv (iL st)) {a:Int} (h0:0<=a) (h1:a<st.length):∃b o c,sv=.slice (some ⟨b,o,none⟩) st.length c/\cell A ⟨b,o+a.toNat,none⟩=some (.int .i64 (sI st a)):=by
 obtain⟨b,o,c,Rk,hc,hcell⟩:=hs.cells (by intro e;have:=aA st;rw[e]at this;simp at this;omega);rw[aA]at Rk hcell;exact⟨b,o,c,Rk,by rw[hcell _ (by omega),du _ _ (by omega)];rfl⟩
theorem OG (h3:f 3=.pointer (some ⟨b3,0,none⟩)) (h4:f 4=.pointer (some ⟨b4,0,none⟩)) (h5:f 5=.pointer (some ⟨b5,0,none⟩)) (h6:f 6=.int .i64 (i:Int)) (h7:f 7=.pointer (some ⟨b7,0,none⟩))
  (B3:Bl A b3 [sv]) (B4:Bl A b4 [TF,TG]) (B5:Bl A b5 [c5]) (h45:b4≠b5) (B7:Bl A b7 (pE x)) (hs:aM A sv (iL st)) (hn:st.length=n) (hx:l8 (n:Int) x)
  (hT:ft st x=true->∀f' A',(∀j,j∉[8,9,65]->f' j=f j)->Bl A' b4 [.int .i64 1,.int .i64 (i:Int)]->Bl A' b5 [.bool false]->af (fun q=>q=b4\/q=b5) A A'->Qb .r f' A') (hF:ft st x=false->∀f',(∀j,j∉[8,9,65]->f' j=f j)->Qb .n f' A):vc P (CU ι) Qb f A:=by
 unfold CU kA kB kF kD kI kP kS kT kU kV kf kY;obtain⟨x1,x2,x3,x4⟩:=hx;have c3:cell A ⟨b3,0,none⟩=some sv:=by rw[B3.cell];rfl
 have zL:cell A ⟨b7,0,none⟩=some (.int .i64 x.1):=by rw[B7.cell];rfl
 have zM:cell A ⟨b7,1,none⟩=some (.int .i64 x.2):=by rw[B7.cell];rfl
 obtain⟨sb,so,sc,rfl,k1⟩:=cx hs x1 (by omega);obtain⟨sb',so',sc',e,k2⟩:=cx hs x3 (by omega);simp only[Value.slice.injEq,Option.some.injEq,Addr.mk.injEq,true_and,and_true]at e;obtain⟨⟨rfl,rfl⟩,rfl⟩:=e;have ag:∀(u w z:Value),∀j,j∉[8,9,65]->bw (bw (bw f 8 u) 9 w) 65 z j=f j:=fun u w z j hj=>by
  simp only[List.mem_cons,List.not_mem_nil,or_false,not_or]at hj;simp only[bw,hj.1,hj.2.1,hj.2.2,if_false]
 have t4:=B4.bK (o:=0) (n:=2) (by simp);have mM:=B4.az 0 [.int .i64 1,.int .i64 (i:Int)];have k4:af (fun q=>q=b4) A (az A ⟨b4,0,none⟩ [.int .i64 1,.int .i64 (i:Int)]):=(af.refl _ _).az _ (.inl rfl);have nK:=k4.bl B5 (fun e=>h45 e.symm);have t5:=nK.br (o:=0) (by simp);have Hj:=nK.ax 0 (.bool false);have k5:af (fun q=>q=b5) (az A ⟨b4,0,none⟩ [.int .i64 1,.int .i64 (i:Int)]) (ax (az A ⟨b4,0,none⟩ [.int .i64 1,.int .i64 (i:Int)]) ⟨b5,0,none⟩ (.bool false)):=(af.refl _ _).ax _ (.inl rfl);have tM:=k5.bl mM h45;have kk:=(k4.mono fun q _ e=>Or.inl (b:=q=b5) e).trans (k5.mono fun q _ e=>Or.inr (a:=q=b4) e);have ha:bI #[Value.int .i64 1,Value.int .i64 (i:Int)]:=bg rfl
 by_cases e1:sI st x.1=0
 ·have d1:(sI st x.1 !=0)=false:=by rw[e1];rfl
  simp-implicitDefEqProofs only[go_sem,zS,↓reduceIte,Za,Zb,Zc,reduceCtorEq,ae,zU,zV,Zf,Zg,Zh,Zi,Zd,Ze,zF,h3,h7,c3,zL,zM,k1,k2,d1];refine⟨by omega,by omega,hF ?_ _ (ag _ _ _)⟩;simp[ft,e1]
 have d1:(sI st x.1 !=0)=true:=bne_iff_ne.2 e1
 by_cases e2:sI st x.1=sI st x.2
 ·have d2:(sI st x.1==sI st x.2)=true:=by rw[e2];simp
  simp-implicitDefEqProofs only[go_sem,zS,↓reduceIte,Za,Zb,Zc,reduceCtorEq,ae,zU,zV,Zf,Zg,Zh,Zi,Zd,Ze,zF,h3,h4,h5,h6,h7,c3,zL,zM,k1,k2,d1,d2,t4,t5];refine⟨by omega,by omega,ha,?_⟩;refine hT ?_ _ _ (ag _ _ _) tM Hj kk;simp only[ft,Bool.and_eq_true,decide_eq_true_eq];exact⟨e1,e2⟩
 ·have d2:(sI st x.1==sI st x.2)=false:=by simp[e2]
  simp-implicitDefEqProofs only[go_sem,zS,↓reduceIte,Za,Zb,Zc,reduceCtorEq,ae,zU,zV,Zf,Zg,Zh,Zi,Zd,Ze,zF,h3,h7,c3,zL,zM,k1,k2,d1,d2];refine⟨by omega,by omega,hF ?_ _ (ag _ _ _)⟩;simp[ft,e2]
theorem OH (h3:f 3=.pointer (some ⟨b3,0,none⟩)) (h4:f 4=.pointer (some ⟨b4,0,none⟩)) (h5:f 5=.pointer (some ⟨b5,0,none⟩)) (h6:f 10=.int .i64 (i:Int)) (h7:f 11=.pointer (some ⟨b7,0,none⟩))
  (B3:Bl A b3 [sv]) (B4:Bl A b4 [TF,TG]) (B5:Bl A b5 [c5]) (h45:b4≠b5) (B7:Bl A b7 (pE x)) (hs:aM A sv (iL st)) (hn:st.length=n) (hx:l8 (n:Int) x)
  (hT:fu st x=true->∀f' A',(∀j,j∉[12,13,97]->f' j=f j)->Bl A' b4 [.int .i64 2,.int .i64 (i:Int)]->Bl A' b5 [.bool false]->af (fun q=>q=b4\/q=b5) A A'->Qb .r f' A') (hF:fu st x=false->∀f',(∀j,j∉[12,13,97]->f' j=f j)->Qb .n f' A):vc P (CV ι) Qb f A:=by
 unfold CV kA kB kF kD kI kJ kP kS kT kU kV kf kY;obtain⟨x1,x2,x3,x4⟩:=hx;have c3:cell A ⟨b3,0,none⟩=some sv:=by rw[B3.cell];rfl
 have zL:cell A ⟨b7,0,none⟩=some (.int .i64 x.1):=by rw[B7.cell];rfl
 have zM:cell A ⟨b7,1,none⟩=some (.int .i64 x.2):=by rw[B7.cell];rfl
 obtain⟨sb,so,sc,rfl,k1⟩:=cx hs x1 (by omega);obtain⟨sb',so',sc',e,k2⟩:=cx hs x3 (by omega);simp only[Value.slice.injEq,Option.some.injEq,Addr.mk.injEq,true_and,and_true]at e;obtain⟨⟨rfl,rfl⟩,rfl⟩:=e;have ag:∀(u w z:Value),∀j,j∉[12,13,97]->bw (bw (bw f 12 u) 13 w) 97 z j=f j:=fun u w z j hj=>by
  simp only[List.mem_cons,List.not_mem_nil,or_false,not_or]at hj;simp only[bw,hj.1,hj.2.1,hj.2.2,if_false]
 have t4:=B4.bK (o:=0) (n:=2) (by simp);have mM:=B4.az 0 [.int .i64 2,.int .i64 (i:Int)];have k4:af (fun q=>q=b4) A (az A ⟨b4,0,none⟩ [.int .i64 2,.int .i64 (i:Int)]):=(af.refl _ _).az _ (.inl rfl);have nK:=k4.bl B5 (fun e=>h45 e.symm);have t5:=nK.br (o:=0) (by simp);have Hj:=nK.ax 0 (.bool false);have k5:af (fun q=>q=b5) (az A ⟨b4,0,none⟩ [.int .i64 2,.int .i64 (i:Int)]) (ax (az A ⟨b4,0,none⟩ [.int .i64 2,.int .i64 (i:Int)]) ⟨b5,0,none⟩ (.bool false)):=(af.refl _ _).ax _ (.inl rfl);have tM:=k5.bl mM h45;have kk:=(k4.mono fun q _ e=>Or.inl (b:=q=b5) e).trans (k5.mono fun q _ e=>Or.inr (a:=q=b4) e);have ha:bI #[Value.int .i64 2,Value.int .i64 (i:Int)]:=bg rfl
 by_cases e1:sI st x.1=0
 ·have d1:(sI st x.1 !=0)=false:=by rw[e1];rfl
  simp-implicitDefEqProofs only[go_sem,zS,↓reduceIte,Za,Zb,Zc,reduceCtorEq,ae,zU,zV,Zf,Zg,Zh,Zi,Zd,Ze,zF,h3,h7,c3,zL,zM,k1,k2,d1];refine⟨by omega,by omega,hF ?_ _ (ag _ _ _)⟩;simp[fu,e1]
 have d1:(sI st x.1 !=0)=true:=bne_iff_ne.2 e1
 by_cases e0:sI st x.2=0
 ·have d0:(sI st x.2 !=0)=false:=by rw[e0];rfl
  simp-implicitDefEqProofs only[go_sem,zS,↓reduceIte,Za,Zb,Zc,reduceCtorEq,ae,zU,zV,Zf,Zg,Zh,Zi,Zd,Ze,zF,h3,h7,c3,zL,zM,k1,k2,d1,d0];refine⟨by omega,by omega,hF ?_ _ (ag _ _ _)⟩;simp[fu,e0]
 have d0:(sI st x.2 !=0)=true:=bne_iff_ne.2 e0
 by_cases e2:sI st x.1=sI st x.2
 ·have d2:(sI st x.1 !=sI st x.2)=false:=by rw[e2];simp
  simp-implicitDefEqProofs only[go_sem,zS,↓reduceIte,Za,Zb,Zc,reduceCtorEq,ae,zU,zV,Zf,Zg,Zh,Zi,Zd,Ze,zF,h3,h7,c3,zL,zM,k1,k2,d1,d0,d2];refine⟨by omega,by omega,hF ?_ _ (ag _ _ _)⟩;simp[fu,e2]
 ·have d2:(sI st x.1 !=sI st x.2)=true:=bne_iff_ne.2 e2;simp-implicitDefEqProofs only[go_sem,zS,↓reduceIte,Za,Zb,Zc,reduceCtorEq,ae,zU,zV,Zf,Zg,Zh,Zi,Zd,Ze,zF,h3,h4,h5,h6,h7,c3,zL,zM,k1,k2,d1,d0,d2,t4,t5];refine⟨by omega,by omega,ha,?_⟩;refine hT ?_ _ _ (ag _ _ _) tM Hj kk;simp only[fu,Bool.and_eq_true,decide_eq_true_eq];exact⟨⟨e1,e0⟩,e2⟩
theorem OI {b14 b15 zN kk:Nat} {K:Int} {mv:Value} {T:List Int} (h3:f 3=.pointer (some ⟨b3,0,none⟩)) (h4:f 4=.pointer (some ⟨b4,0,none⟩)) (h5:f 5=.pointer (some ⟨b5,0,none⟩)) (h14:f 14=.pointer (some ⟨b14,0,none⟩)) (h15:f 15=.pointer (some ⟨b15,0,none⟩)) (h16:f 16=.pointer (some ⟨zN,0,none⟩)) (h17:f 17=.int .i64 (kk:Int))
  (B3:Bl A b3 [sv]) (B4:Bl A b4 [TF,TG]) (B5:Bl A b5 [c5]) (h45:b4≠b5) (pt:Bl A b14 [.int .i64 (i:Int)]) (EK:Bl A b15 [.int .i64 K,mv]) (TH:Bl A zN (iL T)) (d4:b4≠zN) (d5:b5≠zN) (d14:b14≠zN) (d15:b15≠zN) (hs:aM A sv (iL st)) (hkk:kk<st.length) (hT:T.length=257) (hu0:0<=st.getD kk 0) (hu1:st.getD kk 0<=256)
  (hb0:0<=T.getD (st.getD kk 0).toNat 0) (hb1:T.getD (st.getD kk 0).toNat 0<=10000)
  (hR:st.getD kk 0≠0->K<T.getD (st.getD kk 0).toNat 0+1->∀f' A',Bl A' b4 [.int .i64 3,.int .i64 (i:Int)]->Bl A' b5 [.bool false]->af (fun q=>q=b4\/q=b5\/q=zN) A A'->Qb .r f' A')
  (hN:st.getD kk 0≠0->¬K<T.getD (st.getD kk 0).toNat 0+1->∀f' A',Bl A' zN (iL (T.set (st.getD kk 0).toNat (T.getD (st.getD kk 0).toNat 0+1)))->af (fun q=>q=zN) A A'->Qb .n f' A')
  (h0:st.getD kk 0=0->∀f',Qb .n f' A):vc P (CW ι) Qb f A:=by
 unfold CW kA kB kD kI kU kV kW kX kf kY;have c3:cell A ⟨b3,0,none⟩=some sv:=by rw[B3.cell];rfl
 obtain⟨sb,so,sc,rfl,k1⟩:=cx (a:=(kk:Int)) hs (by omega) (by omega);have WZ:sI st (kk:Int)=st.getD kk 0:=rfl;rw[WZ,Int.toNat_natCast]at k1;obtain⟨u,hu⟩:∃u,u=st.getD kk 0:=⟨_,rfl⟩
 rw[<-hu]at k1 hu0 hu1 hb0 hb1 hR hN h0
 by_cases e1:u=0
 ·have d1:(u !=0)=false:=by rw[e1];rfl
  simp-implicitDefEqProofs only[go_sem,zS,↓reduceIte,Za,Zb,Zc,reduceCtorEq,ae,zU,zV,Zf,Zg,Zh,Zi,Zd,Ze,zF,h3,h17,c3,aj,k1,d1];exact⟨by omega,h0 e1 _⟩
 have d1:(u !=0)=true:=bne_iff_ne.2 e1;have py:u.toNat<T.length:=by omega
 have cu:cell A ⟨zN,u.toNat,none⟩=some (.int .i64 (T.getD u.toNat 0)):=by rw[TH.cell,du _ _ py]
 have w1:IntKind.i64.wrap (T.getD u.toNat 0+1)=T.getD u.toNat 0+1:=IntWalk.i64_in _ (by omega);have tu:=TH.br (o:=u.toNat) (by rw[aA];exact py);have Bu:=TH.ax u.toNat (.int .i64 (T.getD u.toNat 0+1));rw[iW]at Bu;have ku:af (fun q=>q=zN) A (ax A ⟨zN,u.toNat,none⟩ (.int .i64 (T.getD u.toNat 0+1))):=(af.refl _ _).ax _ (.inl rfl);have TI:0<=u/\u<((257:Nat):Int):=by omega
 simp-implicitDefEqProofs only[go_sem,zS,↓reduceIte,Za,Zb,Zc,reduceCtorEq,ae,zU,zV,Zf,Zg,Zh,Zi,Zd,Ze,zF,h3,h16,h17,c3,aj,k1,d1,cu,w1,tu,TI];refine⟨by omega,by omega,by omega,?_⟩;generalize ax A ⟨zN,u.toNat,none⟩ (.int .i64 (T.getD u.toNat 0+1))=A1 at Bu ku⊢;have TJ:=ku.bl EK d15;have BN:=ku.bl pt d14;have mM:=ku.bl B4 d4;have nK:=ku.bl B5 d5;have cu1:cell A1 ⟨zN,u.toNat,none⟩=some (.int .i64 (T.getD u.toNat 0+1)):=by
  rw[Bu.cell,du _ _ (by simpa using py),List.getD_eq_getElem?_getD,List.getElem?_set_self py];rfl
 have c15:cell A1 ⟨b15,0,none⟩=some (.int .i64 K):=by rw[TJ.cell];rfl
 have TK:cell A1 ⟨b14,0,none⟩=some (.int .i64 (i:Int)):=by rw[BN.cell];rfl
 refine bj (fun _=>False) ?_
 by_cases e2:T.getD u.toNat 0+1>K
 ·have d2:decide (T.getD u.toNat 0+1>K)=true:=decide_eq_true e2;have t4:=mM.bK (o:=0) (n:=2) (by simp);have W4:=mM.az 0 [.int .i64 3,.int .i64 (i:Int)];have k4:af (fun q=>q=b4) A1 (az A1 ⟨b4,0,none⟩ [.int .i64 3,.int .i64 (i:Int)]):=(af.refl _ _).az _ (.inl rfl);have W5:=k4.bl nK (fun e=>h45 e.symm);have t5:=W5.br (o:=0) (by simp);have Hj:=W5.ax 0 (.bool false);have k5:af (fun q=>q=b5) (az A1 ⟨b4,0,none⟩ [.int .i64 3,.int .i64 (i:Int)]) (ax (az A1 ⟨b4,0,none⟩ [.int .i64 3,.int .i64 (i:Int)]) ⟨b5,0,none⟩ (.bool false)):=(af.refl _ _).ax _ (.inl rfl);have tM:=k5.bl W4 h45;have ha:bI #[Value.int .i64 3,Value.int .i64 (i:Int)]:=bg rfl;simp-implicitDefEqProofs only[go_sem,zS,↓reduceIte,Za,Zb,Zc,reduceCtorEq,ae,zU,zV,Zf,Zg,Zh,Zi,Zd,Ze,zF,h4,h5,h14,h15,h16,cu1,TK,c15,TI,d2,t4,t5];exact⟨by omega,ha,hR e1 (by omega) _ _ tM Hj ((ku.mono fun q _ e=>.inr (.inr e)).trans ((k4.mono fun q _ e=>.inl e).trans (k5.mono fun q _ e=>.inr (.inl e))))⟩
 ·have d2:decide (T.getD u.toNat 0+1>K)=false:=decide_eq_false e2;simp-implicitDefEqProofs only[go_sem,zS,↓reduceIte,Za,Zb,Zc,reduceCtorEq,ae,zU,zV,Zf,Zg,Zh,Zi,Zd,Ze,zF,h15,h16,cu1,c15,TI,d2];exact⟨by omega,hN e1 (by omega) _ _ Bu ku⟩
end Go.Mg
namespace Go.Mg
open Go Go.RowKit
def tZ (s:List Int) (m:UInt64) (k:Nat) (u:Int):Nat:=(((aJ (bt m)).take k).filter fun x=>decide (s.getD x 0=u)).length
theorem E4 (s:List Int) (m:UInt64) (u:Int):tZ s m 0 u=0:=rfl
variable {s st:List Int} {m:UInt64} {k i b3 b4 b5:Nat} {K:Int} {P:Program} {ι:aC} {f:Fr} {A:Hp} {sv:Value} {Qb:Ex->Fr->Hp->Prop} {α:Type}
theorem mZ (hk:k<(aJ (bt m)).length) (u:Int):tZ s m (k+1) u=tZ s m k u+if s.getD (aJ (bt m))[k] 0=u then 1 else 0:=by
 unfold tZ;rw[List.take_succ_eq_append_getElem hk,List.filter_append,List.length_append]
 congr 1
 simp only[List.filter_cons,List.filter_nil,decide_eq_true_eq]
 split<;>simp
theorem zO {s : List Int} {m : UInt64} {u : Int} {a : Nat} : ∀ {b : Nat}, a <= b -> tZ s m a u <= tZ s m b u
  | 0, h => by have : a = 0 := by omega
               subst this; exact Nat.le_refl _
  | b + 1, h => by
    by_cases e : a = b + 1
    · rw [e]; exact Nat.le_refl _
    · refine Nat.le_trans (zO (show a <= b by omega)) ?_
      by_cases hb : b < (aJ (bt m)).length
      · rw [mZ hb]; omega
      · unfold tZ;rw [List.take_of_length_le (show (aJ (bt m)).length <= b + 1 by omega), List.take_of_length_le (show (aJ (bt m)).length <= b by omega)];exact Nat.le_refl _
theorem Jz (s:List Int) (m:UInt64) (k:Nat) (u:Int):tZ s m k u<=4096:=by
 unfold tZ;refine Nat.le_trans (List.length_filter_le _ _) ?_;rw[List.length_take];have:=fA 4096 (bt m);have:=bO (bt m);omega
theorem E5 (hs:s.length<=10) (hm:m.toNat<2^s.length) (u:Int):tZ s m (aJ (bt m)).length u=Q8 s m u s.length:=by
 unfold tZ Q8 aJ;rw[List.take_length,List.filter_filter,fC];rw[mH (a:=s.length) (b:=4096) (by omega)]
 ·exact bH fun i _=>Bool.and_comm _ _
 ·intro i h1 h2;have:bt m i=false:=by
   cases hb:bt m i with
   |false=>rfl
   |true=>
    have:=(iB (n:=s.length) (by omega)).2 hm i hb;simp at this;omega
  rw[this,Bool.and_false]
theorem zP (hs:s.length<=10) (hm:m.toNat<2^s.length) (hi:i<s.length) (h0:s.getD i 0≠0) (h:K<(tZ s m k (s.getD i 0):Int)):iy s (K,m)=true:=by
 unfold iy;refine List.any_eq_true.2 ⟨s.getD i 0,?_,?_⟩
 ·rw[List.getD_eq_getElem?_getD,List.getElem?_eq_getElem hi];exact List.getElem_mem _
 ·simp only[Bool.and_eq_true,decide_eq_true_eq];refine⟨h0,?_⟩;have h1:tZ s m k (s.getD i 0)<=Q8 s m (s.getD i 0) s.length:=by
   rw[<-E5 hs hm]
   by_cases hk:k<=(aJ (bt m)).length
   ·exact zO hk
   ·unfold tZ;rw[List.take_of_length_le (show(aJ (bt m)).length<=k by omega),List.take_length];exact Nat.le_refl _
  omega
theorem uM (hs:s.length<=10) (hm:m.toNat<2^s.length) (hr:∀u∈s,0<=u/\u<=256) (h:∀u:Int,0<=u->u<=256->u≠0->(tZ s m (aJ (bt m)).length u:Int)<=K):iy s (K,m)=false:=by
 unfold iy;refine List.any_eq_false.2 fun u hu=>?_;simp only[Bool.and_eq_true,decide_eq_true_eq,not_and,Int.not_lt];intro h0;have:=h u (hr u hu).1 (hr u hu).2 h0
 rwa [E5 hs hm]at this
theorem OJ (hg:iC P ι (ι.f 312)) (hmi:wT P (ι.f 316)) (hma:wU P (ι.f 317)) {b2:Nat} {s b d a m:Value} {F:dz}
  (h2:f 2=.pointer (some ⟨b2,0,none⟩)) (h3:f 3=.pointer (some ⟨b3,0,none⟩)) (h4:f 4=.pointer (some ⟨b4,0,none⟩)) (h5:f 5=.pointer (some ⟨b5,0,none⟩))
  (B2:Bl A b2 [s,b,d,a,m]) (B3:Bl A b3 [sv]) (B4:Bl A b4 [.int .i64 0,.int .i64 0]) (B5:Bl A b5 [.bool false]) (h45:b4≠b5) (hv:bW A (.agg #[s,b,d,a,m]) F) (hok:CO F=true) (hs:aM A sv (iL st)) (hT:aU ι A) (is0:aq s) (ls0:aO s=F.st.length)
  (hN:pR F.st.length st=true->∀f' A',(∀j,j≠39->f' j=f j)->af (fun _=>False) A A'->Qb .n f' A')
  (hR:pR F.st.length st=false->∀f' A',(∀j,j≠39->f' j=f j)->Bl A' b4 [.int .i64 0,.int .i64 0]->Bl A' b5 [.bool false]->af (fun q=>q=b4\/q=b5) A A'->Qb .r f' A'):vc P (CT ι) Qb f A:=by
 unfold CT kF kM kT kU kV kc kf kg kY;have hG:=r8 hok;have hn:=hG.lt;have hne:0<F.st.length:=List.length_pos_iff.2 hG.ne;have ag:∀(z:Value),∀j,j≠39->bw f 39 z j=f j:=fun z j hj=>by simp only[bw,hj,if_false]
 have out:∀A1,af (fun _=>False) A A1->pR F.st.length st=false->bK A1 ⟨b4,0,none⟩ 2/\((cell (az A1 ⟨b4,0,none⟩ [.int .i64 0,.int .i64 0]) ⟨b5,0,none⟩).isSome=true/\tN (az A1 ⟨b4,0,none⟩ [.int .i64 0,.int .i64 0]) ⟨b5,0,none⟩=false)/\∀z,Qb .r (bw f 39 z) (ax (az A1 ⟨b4,0,none⟩ [.int .i64 0,.int .i64 0]) ⟨b5,0,none⟩ (.bool false)):=fun A1 K1 hf=>by
  have Rl:=K1.bl B4 (by simp);have Zy:=K1.bl B5 (by simp);have W4:=Rl.az 0 [.int .i64 0,.int .i64 0];have k4:af (fun q=>q=b4) A1 (az A1 ⟨b4,0,none⟩ [.int .i64 0,.int .i64 0]):=(af.refl _ _).az _ (.inl rfl);have nK:=k4.bl Zy (fun e=>h45 e.symm);have Hj:=nK.ax 0 (.bool false);have k5:af (fun q=>q=b5) (az A1 ⟨b4,0,none⟩ [.int .i64 0,.int .i64 0]) (ax (az A1 ⟨b4,0,none⟩ [.int .i64 0,.int .i64 0]) ⟨b5,0,none⟩ (.bool false)):=(af.refl _ _).ax _ (.inl rfl);exact⟨Rl.bK (o:=0) (n:=2) (by simp),nK.br (o:=0) (by simp),fun z=>hR hf _ _ (ag z) (k5.bl W4 h45) Hj ((K1.any.trans (k4.mono fun q _ e=>.inl e)).trans (k5.mono fun q _ e=>.inr e))⟩
 have ha:bI #[Value.int .i64 0,Value.int .i64 0]:=bg rfl;simp-implicitDefEqProofs only[go_sem,zS,↓reduceIte,Za,Zb,Zc,reduceCtorEq,ae,zU,zV,Zf,Zg,Zh,Zi,Zd,Ze,zF,h2,B2.aD 5 rfl];refine(hg F _ A hT hv).mono ?_;rintro r A1 ⟨rfl,K1⟩;have c3:cell A1 ⟨b3,0,none⟩=some sv:=by rw[(K1.bl B3 (by simp)).cell];rfl
 have c2:cell A1 ⟨b2,0,none⟩=some s:=by rw[(K1.bl B2 (by simp)).cell];rfl
 have Te:aO sv=st.length:=by rw[hs.len,aA]
 rw[ae,hok]
 by_cases e1:st.length=F.st.length
 case neg=>
  have d1:((st.length:Int)!=(F.st.length:Int))=true:=bne_iff_ne.2 (by omega);obtain⟨t1,t2,t3⟩:=out A1 K1 (by unfold pR;simp[e1]);simp-implicitDefEqProofs only[go_sem,zS,↓reduceIte,Za,Zb,Zc,reduceCtorEq,ae,zU,zV,Zf,Zg,Zh,Zi,Zd,Ze,zF,Bool.not_true,h2,h3,h4,h5,c3,c2,hs.aq,Te,is0,ls0,d1,t1,t2];exact⟨ha,t3 _⟩
 have d1:((st.length:Int)!=(F.st.length:Int))=false:=by rw[e1];simp
 have hns:st≠[]:=fun e=>by rw[e]at e1;simp at e1;omega
 simp-implicitDefEqProofs only[go_sem,zS,↓reduceIte,Za,Zb,Zc,reduceCtorEq,ae,zU,zV,Zf,Zg,Zh,Zi,Zd,Ze,zF,Bool.not_true,h2,h3,h4,h5,c3,c2,hs.aq,Te,is0,ls0,d1];refine(hmi st sv A1 (hs.ag K1 (by simp)) hns (by omega)).mono ?_;rintro r A2 ⟨⟨mi,rfl,hmi⟩,rfl⟩;rw[ae]
 by_cases e2:mi<0
 ·have d2:decide (mi<0)=true:=decide_eq_true e2;obtain⟨t1,t2,t3⟩:=out A2 K1 (by
   obtain⟨u,hu,hlt⟩:=hmi.1 e2;unfold pR;rw[Bool.and_eq_false_iff];left;rw[List.all_eq_false];exact⟨u,hu,by simp;omega⟩)
  simp-implicitDefEqProofs only[go_sem,zS,↓reduceIte,Za,Zb,Zc,reduceCtorEq,ae,zU,zV,Zf,Zg,Zh,Zi,Zd,Ze,zF,Bool.not_true,h2,h3,h4,h5,c3,c2,d2,t1,t2];exact⟨ha,t3 _⟩
 have d2:decide (mi<0)=false:=decide_eq_false e2;simp-implicitDefEqProofs only[go_sem,zS,↓reduceIte,Za,Zb,Zc,reduceCtorEq,ae,zU,zV,Zf,Zg,Zh,Zi,Zd,Ze,zF,Bool.not_true,h2,h3,h4,h5,c3,c2,d2];refine(hma st sv A2 (hs.ag K1 (by simp)) hns (by omega)).mono ?_;rintro r A3 ⟨⟨mx,rfl,hmx⟩,rfl⟩;rw[ae]
 by_cases e3:mx>256
 ·have d3:decide (mx>256)=true:=decide_eq_true e3;obtain⟨t1,t2,t3⟩:=out A3 K1 (by
   obtain⟨u,hu,hlt⟩:=hmx.1 e3;unfold pR;rw[Bool.and_eq_false_iff];left;rw[List.all_eq_false];exact⟨u,hu,by simp;omega⟩)
  simp-implicitDefEqProofs only[go_sem,zS,↓reduceIte,Za,Zb,Zc,reduceCtorEq,ae,zU,zV,Zf,Zg,Zh,Zi,Zd,Ze,zF,Bool.not_true,h2,h3,h4,h5,c3,c2,d3,t1,t2];exact⟨ha,t3 _⟩
 have d3:decide (mx>256)=false:=decide_eq_false e3;simp-implicitDefEqProofs only[go_sem,zS,↓reduceIte,Za,Zb,Zc,reduceCtorEq,ae,zU,zV,Zf,Zg,Zh,Zi,Zd,Ze,zF,Bool.not_true,h2,h3,h4,h5,c3,c2,d3];refine hN ?_ _ A3 (ag _) K1;unfold pR;rw[decide_eq_true e1,Bool.and_true,List.all_eq_true];intro u hu;have h1:¬u<0:=fun h=>e2 (hmi.2 ⟨u,hu,h⟩);have h2:¬256<u:=fun h=>e3 (hmx.2 ⟨u,hu,h⟩);simp;omega
theorem zQ (n k:Nat):(List.replicate n (0:Int)).getD k 0=0:=by
 rw[List.getD_eq_getElem?_getD,List.getElem?_replicate]
 split<;>rfl
theorem OK (hba:dy P (ι.f 137) (ι.f 136)) (hb1:bB P (ι.f 136)=true) (hY:iu P (ι.f 136) (eP ι) eQ 2) (htz:gW P ι (ι.f 126)) {b14 b15:Nat} {TF TG c5:Value} {mv:Value}
  (h3:f 3=.pointer (some ⟨b3,0,none⟩)) (h4:f 4=.pointer (some ⟨b4,0,none⟩)) (h5:f 5=.pointer (some ⟨b5,0,none⟩)) (h14:f 14=.pointer (some ⟨b14,0,none⟩)) (h15:f 15=.pointer (some ⟨b15,0,none⟩))
  (B3:Bl A b3 [sv]) (B4:Bl A b4 [TF,TG]) (B5:Bl A b5 [c5]) (pt:Bl A b14 [.int .i64 (i:Int)]) (EK:Bl A b15 [.int .i64 K,mv]) (h45:b4≠b5) (h3n:b3≠b4/\b3≠b5) (h14n:b14≠b4/\b14≠b5) (h15n:b15≠b4/\b15≠b5)
  (hs:aM A sv (iL st)) (hsn:∀q,aV sv q->q≠b4/\q≠b5) (hm:aQ A (.agg #[mv]) (bt m)) (hmn:∀q,aV mv q->q≠b4/\q≠b5) (hT:aU ι A) (hTn:∀A',af (fun q=>q=b4\/q=b5\/A.size<=q) A A'->aU ι A')
  (hl:st.length<=10) (hK:1<=K) (hmt:m.toNat<2^st.length) (hr:∀u∈st,0<=u/\u<=256)
  (hR:iy st (K,m)=true->∀f' A' q,(∀j,j∉[16,111,134]->f' j=f j)->f' 134=mz (f 134) q->A.size<=q->A'[q]?=some (.deferred (some []))->Bl A' b4 [.int .i64 3,.int .i64 (i:Int)]->Bl A' b5 [.bool false]->af (fun q=>q=b4\/q=b5) A A'->Qb .r f' A')
  (hN:iy st (K,m)=false->∀f' A' q,(∀j,j∉[16,111,134]->f' j=f j)->f' 134=mz (f 134) q->A.size<=q->A'[q]?=some (.deferred (some []))->Bl A' b4 [TF,TG]->Bl A' b5 [c5]->af (fun q=>q=b4\/q=b5) A A'->Qb .n f' A'):vc P (C0 ι) Qb f A:=by
 unfold C0 kG kN kd kg kY;have s4:=B4.lt;have s5:=B5.lt;have s3:=B3.lt;have s14:=pt.lt;have s15:=EK.lt;simp-implicitDefEqProofs only[go_sem,zS,↓reduceIte,Za,Zb,Zc,reduceCtorEq,zU,zV,Zf,Zg,Zh,Zi,Zd,Ze,zF];refine al fun H1 zN e16 z16 TH K1=>?_;rw[Array.toList_replicate,qR]at TH;have W6:=K1.bl EK (by simp);have mS:aR H1 ⟨b15,1,none⟩ 1=some #[mv]:=by
  have:=W6.aR (o:=1) (n:=1) (by simp);simpa using this
 simp-implicitDefEqProofs only[go_sem,zS,↓reduceIte,Za,Zb,Zc,reduceCtorEq,ae,zU,zV,Zf,Zg,Zh,Zi,Zd,Ze,zF,h15,aB,mS];refine(hba mv H1).mono ?_;rintro r H2 ⟨rfl,Bs,K2,z2⟩;rw[ae];have cG:=K1.trans K2;have AB:=cG.bl B3 (by simp);have B42:=cG.bl B4 (by simp);have TA:=cG.bl B5 (by simp);have abJ:=cG.bl pt (by simp);have abK:=K2.bl W6 (by simp);have abL:=K2.bl TH (by simp);have s16:=TH.lt;obtain⟨u,W0,hu,hV⟩:=hm;simp only[Value.agg.injEq,Array.mk.injEq,List.cons.injEq,and_true]at hu;rw[<-hu]at hV;have hmo:∀q,aV mv q->q<A.size:=fun q hq=>aQ.bE (x:=.agg #[mv]) ⟨mv,W0,rfl,hV⟩ (k:=q) hq;have W7:=hV.ag cG (by simp);have hso:∀q,aV sv q->q<A.size:=fun q hq=>hs.bE hq;have hs2:=hs.ag cG (by simp);simp-implicitDefEqProofs only[go_sem,zS,↓reduceIte,Za,Zb,Zc,reduceCtorEq,ae,zU,zV,Zf,Zg,Zh,Zi,Zd,Ze];refine uE (fun p=>p=b4\/p=b5\/p=zN) (fun k A=>∃T,Bl A zN (iL T)/\T.length=257/\(∀u:Int,0<=u->u<=256->u≠0->T.getD u.toNat 0=(tZ st m k u:Int)/\(tZ st m k u:Int)<=K)/\T.getD 0 0=0/\Bl A b4 [TF,TG]/\Bl A b5 [c5])
  (fun e A=>e=.r/\iy st (K,m)=true/\Bl A b4 [.int .i64 3,.int .i64 (i:Int)]/\Bl A b5 [.bool false]) (G:=fun H=>aU ι H/\Bl H H1.size [mv]/\dS H mv W0 (bt m)) (by simp-implicitDefEqProofs only[go_sem,zS,↓reduceIte,Za,Zb,Zc,reduceCtorEq,ae,zU,zV,Zf,Zg,Zh,Zi,Zd,Ze];rfl) hb1 (iv hY htz) ?_ ?_ ?_ ?_ ?_ ?_ ?_ ?_
 ·rintro p (rfl|rfl|rfl)<;>omega
 ·rintro k X KX _;refine⟨hTn X (cG.any.trans (KX.mono fun q _ h=>?_)),KX.bl Bs (by omega),W7.ag KX fun q hq h=>?_⟩
  ·rcases h with h|h|h
   ·exact .inl h
   ·exact .inr (.inl h)
   ·exact .inr (.inr (by omega))
  ·have:=hmn q hq;have:=hmo q hq;omega
 ·intro X KX gX;exact⟨_,KX.bl abL (by simp),by simp,fun u _ hu h0=>⟨by rw[E4,zQ];rfl,by rw[E4];omega⟩,zQ _ _,KX.bl B42 (by simp),KX.bl TA (by simp)⟩
 ·rintro k X X2 gX KX ⟨T,j1,j2,j3,j4,j5,j6⟩ KK;exact⟨T,KK.bl j1 (by omega),j2,j3,j4,KK.bl j5 (by omega),KK.bl j6 (by omega)⟩
 ·rintro e X X2 gX KX ⟨j1,j2,j3,j4⟩ KK;exact⟨j1,j2,KK.bl j3 (by omega),KK.bl j4 (by omega)⟩
 ·rintro k X hk KX gX ⟨T,j1,j2,j3,j4,j5,j6⟩;have hkl:k<(aJ (bt m)).length:=by simpa[bL]using hk
  obtain⟨x,hx⟩:∃x,x=(aJ (bt m))[k]:=⟨_,rfl⟩
  have hxv:(bL (bt m)).getD k undef=.int .i64 (x:Int):=by
   rw[List.getD_eq_getElem?_getD,List.getElem?_eq_getElem hk];simp[bL,hx]
  rw[hxv];have hxm:bt m x=true:=(dQ.1 (show x∈aJ (bt m) by rw[hx];exact List.getElem_mem _)).2;have hxl:x<st.length:=by
   have:=(iB (n:=st.length) (by omega)).2 hmt x hxm;simpa using this
  have W8:=hr (st.getD x 0) (by rw[List.getD_eq_getElem?_getD,List.getElem?_eq_getElem hxl];exact List.getElem_mem _);have hval:0<=T.getD (st.getD x 0).toNat 0/\T.getD (st.getD x 0).toNat 0<=10000/\(st.getD x 0≠0->T.getD (st.getD x 0).toNat 0=(tZ st m k (st.getD x 0):Int)):=by
   by_cases e0:st.getD x 0=0
   ·rw[e0];have:T.getD (0:Int).toNat 0=0:=j4;rw[this];exact⟨by omega,by omega,fun h=>absurd rfl h⟩
   ·obtain⟨v1,_⟩:=j3 _ W8.1 W8.2 e0;have:=Jz st m k (st.getD x 0);rw[v1];exact⟨by omega,by omega,fun _=>rfl⟩
  have htm:∀v,tZ st m (k+1) v=tZ st m k v+if st.getD x 0=v then 1 else 0:=fun v=>by rw[mZ hkl,hx]
  have X3:=KX.bl AB (by omega);have X14:=KX.bl abJ (by omega);have X15:=KX.bl abK (by omega);have W9:=hs2.ag KX fun q hq h=>by
   have:=hsn q hq;have:=hso q hq;omega
  refine OI (i:=i) (kk:=x) (K:=K) (mv:=mv) (T:=T) (by simp-implicitDefEqProofs only[go_sem,zS,↓reduceIte,Za,Zb,Zc,reduceCtorEq,ae,zU,zV,Zf,Zg,Zh,Zi,Zd,Ze,h3]) (by simp-implicitDefEqProofs only[go_sem,zS,↓reduceIte,Za,Zb,Zc,reduceCtorEq,ae,zU,zV,Zf,Zg,Zh,Zi,Zd,Ze,h4]) (by simp-implicitDefEqProofs only[go_sem,zS,↓reduceIte,Za,Zb,Zc,reduceCtorEq,ae,zU,zV,Zf,Zg,Zh,Zi,Zd,Ze,h5]) (by simp-implicitDefEqProofs only[go_sem,zS,↓reduceIte,Za,Zb,Zc,reduceCtorEq,ae,zU,zV,Zf,Zg,Zh,Zi,Zd,Ze,h14]) (by simp-implicitDefEqProofs only[go_sem,zS,↓reduceIte,Za,Zb,Zc,reduceCtorEq,ae,zU,zV,Zf,Zg,Zh,Zi,Zd,Ze,h15]) (by simp-implicitDefEqProofs only[go_sem,zS,↓reduceIte,Za,Zb,Zc,reduceCtorEq,ae,zU,zV,Zf,Zg,Zh,Zi,Zd,Ze]) (by simp-implicitDefEqProofs only[go_sem,zS,↓reduceIte,Za,Zb,Zc,reduceCtorEq,ae,zU,zV,Zf,Zg,Zh,Zi,Zd,Ze]) X3 j5 j6 h45 X14 X15 j1 (by omega) (by omega) (by omega) (by omega) W9 hxl j2 W8.1 W8.2 hval.1 hval.2.1 ?_ ?_ ?_
  ·intro e0 AY f' A' w4 w5 KK;refine⟨KK.mono fun q _ h=>.inl h,rfl,zP hl hmt (k:=k+1) hxl e0 ?_,w4,w5⟩;rw[hval.2.2 e0]at AY;have:=htm (st.getD x 0);rw[if_pos rfl]at this;omega
  ·intro e0 hle f' A' w16 KK;rw[hval.2.2 e0]at hle w16;refine⟨KK.mono fun q _ h=>.inl (.inr (.inr h)),_,w16,by simpa using j2,fun u hu0 hu1 hu=>?_,?_,KK.bl j5 (by omega),KK.bl j6 (by omega)⟩
   ·obtain⟨v1,v2⟩:=j3 u hu0 hu1 hu;rw[List.getD_eq_getElem?_getD,List.getElem?_set];have ht:=htm u
    by_cases eu:st.getD x 0=u
    ·rw[if_pos eu]at ht;rw[if_pos (by rw[eu]),if_pos (by omega),eu];rw[eu]at hle;simp only[Option.getD_some];omega
    ·rw[if_neg eu]at ht;rw[if_neg (by omega),<-List.getD_eq_getElem?_getD,v1];omega
   ·rw[List.getD_eq_getElem?_getD,List.getElem?_set,if_neg (by omega),<-List.getD_eq_getElem?_getD];exact j4
  ·intro e0 f';refine⟨af.refl _ _,T,j1,j2,fun u hu0 hu1 hu=>?_,j4,j5,j6⟩;obtain⟨v1,v2⟩:=j3 u hu0 hu1 hu;have ht:=htm u;rw[if_neg (by omega)]at ht;exact⟨by omega,by omega⟩
 ·rintro X KX gX hd ⟨T,j1,j2,j3,j4,j5,j6⟩;have sd:(bL (bt m)).length=(aJ (bt m)).length:=by simp[bL]
  rw[sd]at j3;refine hN (uM hl hmt hr fun u h0 h1 h2=>(j3 u h0 h1 h2).2) _ X H2.size (fun j hj=>?_) (by simp-implicitDefEqProofs only[go_sem,zS,↓reduceIte,Za,Zb,Zc,reduceCtorEq,ae,zU,zV,Zf,Zg,Zh,Zi,Zd,Ze]) (by omega) hd j5 j6 ?_
  ·simp only[List.mem_cons,List.not_mem_nil,or_false,not_or]at hj;simp only[bw,D.fr,hj.1,hj.2.1,hj.2.2,if_false]
  ·refine cG.any.trans' KX fun q hq h=>?_;rcases h with h|h|h
   ·exact .inl h
   ·exact .inr h
   ·omega
 ·rintro e X KX gX hd ⟨rfl,j2,j3,j4⟩;refine hR j2 _ X H2.size (fun j hj=>?_) (by simp-implicitDefEqProofs only[go_sem,zS,↓reduceIte,Za,Zb,Zc,reduceCtorEq,ae,zU,zV,Zf,Zg,Zh,Zi,Zd,Ze]) (by omega) hd j3 j4 ?_
  ·simp only[List.mem_cons,List.not_mem_nil,or_false,not_or]at hj;simp only[bw,D.fr,hj.1,hj.2.1,hj.2.2,if_false]
  ·refine cG.any.trans' KX fun q hq h=>?_;rcases h with h|h|h
   ·exact .inl h
   ·exact .inr h
   ·omega
def jf (F:dz) (st:List Int):Nat×Nat×Bool:=if pR F.st.length st=true then((jP F st).1,(jP F st).2,decide ((jP F st).1=0))else(0,0,false)
def Xa (x:Nat×Nat×Bool):Value:=.tuple #[.agg #[.int .i64 (x.1:Int),.int .i64 (x.2.1:Int)],.bool x.2.2]
def se (P:Program) (ι:aC) (k:FuncId):Prop:=∀(F:dz) (v sv:Value) (st:List Int) (H:Hp),aU ι H->bW H v F->CO F=true->aM H sv (iL st)->ak P k #[v,sv] H fun r H'=>r=Xa (jf F st)/\af (fun _=>False) H H'
structure abM (P:Program) (ι:aC):Prop where
 gd:iC P ι (ι.f 312)
 mi:wT P (ι.f 316)
 ma:wU P (ι.f 317)
 all:dy P (ι.f 137) (ι.f 136)
 a1:bB P (ι.f 136)=true
 aY:iu P (ι.f 136) (eP ι) eQ 2
 tz:gW P ι (ι.f 126)
theorem Db {p:α->Bool} {l:List α} (hi:i<l.length) (h:p l[i]=true) (hp:∀j,(hj:j<l.length)->j<i->p l[j]=false):l.findIdx? p=some i:=
 List.findIdx?_eq_some_iff_getElem.2 ⟨hi,h,fun j hj=>by rw[hp j (by omega) hj];simp⟩
theorem wV {p:α->Bool} {l:List α} (hp:∀j,(hj:j<l.length)->p l[j]=false):l.findIdx? p=none:=
 List.findIdx?_eq_none_iff.2 fun x hx=>by
  obtain⟨j,hj,rfl⟩:=List.getElem_of_mem hx;exact hp j hj
theorem kr {p:α->Bool} {l:List α} (hi:i<l.length) (h:p l[i]=false) (hp:∀j,(hj:j<l.length)->j<i->p l[j]=false):∀j,(hj:j<l.length)->j<i+1->p l[j]=false:=fun j hj hlt=>by
 by_cases e:j=i
 ·subst e;exact h
 ·exact hp j hj (by omega)
theorem OM {k:FuncId} (hk:dx P k (C6 ι) Da 2 134) (c:abM P ι):se P ι k:=by
 intro F v sv st H hT hv hok hst;have lO:=hv;obtain⟨s,b,d,a,m,ms,rfl,h1,h2,h3,h4,h5,h6⟩:=hv;have hG:=r8 hok;have hlim:=hG.lim;unfold mQ at hlim;refine qI fun Q hQ=>?_;refine dk hk (args:=[_,_]) (by simp) ?_;unfold C6 Da kA kB kC ke kG kH kK kN kO kR kU kV kd kf kY kZ;simp-implicitDefEqProofs only[go_sem,zS,↓reduceIte,Za,Zb,Zc,reduceCtorEq,zU,zV,Zf,Zg,Zh,Zi,Zd,Ze,zF];refine al fun H1 b2 e1 z1 B1 K1=>?_;have cf:Bl H1 b2 [s,b,d,a,m]:=B1;simp-implicitDefEqProofs only[go_sem,zS,↓reduceIte,Za,Zb,Zc,reduceCtorEq,zU,zV,Zf,Zg,Zh,Zi,Zd,Ze,zF];refine al fun H2 b3 e2 z2 B2 K2=>?_;have jc:Bl H2 b3 [sv]:=by
  have:=hst.aq
  cases sv<;>first|exact B2|exact absurd this (by simp[aq])
 simp-implicitDefEqProofs only[go_sem,zS,↓reduceIte,Za,Zb,Zc,reduceCtorEq,zU,zV,Zf,Zg,Zh,Zi,Zd,Ze,zF];refine al fun H3 b4 e3 z3 B3 K3=>?_;have jv:Bl H3 b4 [.int .i64 0,.int .i64 0]:=B3;simp-implicitDefEqProofs only[go_sem,zS,↓reduceIte,Za,Zb,Zc,reduceCtorEq,zU,zV,Zf,Zg,Zh,Zi,Zd,Ze,zF];refine al fun H4 b5 e4 z4 B4 K4=>?_;have mM:Bl H4 b5 [.bool false]:=B4;have cG:=K1.trans K2;have pD:=(cG.trans K3).trans K4;have s1:=K1.size;have s2:=K2.size;have s3:=K3.size;have s4:=K4.size;have pt:=(K2.trans (K3.trans K4)).bl cf (by simp);have zd:=(K3.trans K4).bl jc (by simp);have FP:=K4.bl jv (by simp);have hT4:=hT.ag pD;have v4:=lO.ai pD;have Zz:=hst.ag pD (by simp);have h45:b4≠b5:=by omega
 have fin:∀(x y:Nat) (q:Bool) f' A',f' 4=.pointer (some ⟨b4,0,none⟩)->f' 5=.pointer (some ⟨b5,0,none⟩)->(iJ (f' 134)).Nodup->(∀p∈iJ (f' 134),H4.size<=p/\A'[p]?=some (.deferred (some [])))->Bl A' b4 [.int .i64 (x:Int),.int .i64 (y:Int)]->Bl A' b5 [.bool q]->af (fun p=>p=b4\/p=b5) H4 A'->jf F st=(x,y,q)->ly 134 [.cn 4 2,.c1 5] Q .r f' A':=fun x y q f' A' f4 f5 hnd hmk j4 j5 K hr=>by
  refine⟨hnd,fun p hp=>(hmk p hp).2,fun A2 hs2 hk2=>?_⟩;have M:af (fun p=>p∈iJ (f' 134)) A' A2:=⟨by omega,fun p _ h=>hk2 p h⟩
  have Xb:=FP.lt;have Xc:=mM.lt;have i4:=M.bl j4 (fun h=>by have:=(hmk _ h).1;omega);have i5:=M.bl j5 (fun h=>by have:=(hmk _ h).1;omega);have c5:cell A2 ⟨b5,0,none⟩=some (.bool q):=by rw[i5.cell];rfl
  rw[hQ,hr];have n4:aD A2 (.pointer (some ⟨b4,0,none⟩)) 2=some #[.int .i64 (x:Int),.int .i64 (y:Int)]:=i4.aD 2 rfl;simp-implicitDefEqProofs only[go_sem,zS,↓reduceIte,Za,Zb,Zc,reduceCtorEq,ae,zU,zV,Zf,Zg,Zh,Zi,Zd,Ze,cU,cV,f4,f5,n4,c5];exact⟨rfl,(pD.trans' K fun p hp h=>by omega).trans' M fun p hp h=>by have:=(hmk p h).1;omega⟩
 have Dc:∀(x y:Nat) (q:Bool) f' A',f' 4=.pointer (some ⟨b4,0,none⟩)->f' 5=.pointer (some ⟨b5,0,none⟩)->f' 134=undef->Bl A' b4 [.int .i64 (x:Int),.int .i64 (y:Int)]->Bl A' b5 [.bool q]->af (fun p=>p=b4\/p=b5) H4 A'->jf F st=(x,y,q)->ly 134 [.cn 4 2,.c1 5] Q .r f' A':=fun x y q f' A' f4 f5 f6 j4 j5 K hr=>
  fin x y q f' A' f4 f5 (by rw[f6,cC];exact List.nodup_nil) (by rw[f6,cC];intro p hp;cases hp) j4 j5 K hr
 have My:∀j,(hj:j<F.di.length)->l8 (F.st.length:Int) F.di[j]:=fun j hj=>(hG.di _ (List.getElem_mem hj)).1;have Q9:∀j,(hj:j<F.sa.length)->l8 (F.st.length:Int) F.sa[j]:=fun j hj=>(hG.sa _ (List.getElem_mem hj)).1;have hmo:∀j,(hj:j<F.mo.length)->1<=F.mo[j].1/\F.mo[j].2.toNat<2^F.st.length:=fun j hj=>by
  have:=hG.mo _ (List.getElem_mem hj);unfold pQ at this
  split at this
  ·omega
  ·next h=>omega
 simp-implicitDefEqProofs only[go_sem,zS,↓reduceIte,Za,Zb,Zc,reduceCtorEq,ae,zU,zV,Zf,Zg,Zh,Zi,Zd,Ze];refine OJ c.gd c.mi c.ma (by simp-implicitDefEqProofs only[go_sem,zS,↓reduceIte,Za,Zb,Zc,reduceCtorEq,ae,zU,zV,Zf,Zg,Zh,Zi,Zd,Ze]) (by simp-implicitDefEqProofs only[go_sem,zS,↓reduceIte,Za,Zb,Zc,reduceCtorEq,ae,zU,zV,Zf,Zg,Zh,Zi,Zd,Ze]) (by simp-implicitDefEqProofs only[go_sem,zS,↓reduceIte,Za,Zb,Zc,reduceCtorEq,ae,zU,zV,Zf,Zg,Zh,Zi,Zd,Ze]) (by simp-implicitDefEqProofs only[go_sem,zS,↓reduceIte,Za,Zb,Zc,reduceCtorEq,ae,zU,zV,Zf,Zg,Zh,Zi,Zd,Ze]) pt zd FP mM h45 v4 hok Zz hT4 h1.aq h1.len (fun k9 f' A zJ KA=>?_) (fun k9 f' A zJ j4 j5 KA=>?_)
 case refine_2=>
  refine Dc 0 0 false f' A (by rw[zJ 4 (by decide)];simp-implicitDefEqProofs only[go_sem,zS,↓reduceIte,Za,Zb,Zc,reduceCtorEq,ae,zU,zV,Zf,Zg,Zh,Zi,Zd,Ze]) (by rw[zJ 5 (by decide)];simp-implicitDefEqProofs only[go_sem,zS,↓reduceIte,Za,Zb,Zc,reduceCtorEq,ae,zU,zV,Zf,Zg,Zh,Zi,Zd,Ze]) (by rw[zJ 134 (by decide)];simp-implicitDefEqProofs only[go_sem,zS,↓reduceIte,Za,Zb,Zc,reduceCtorEq,ae,zU,zV,Zf,Zg,Zh,Zi,Zd,Ze]) j4 j5 KA ?_;unfold jf;rw[k9];rfl
 have hl:st.length=F.st.length:=by
  unfold pR at k9;simp only[Bool.and_eq_true,decide_eq_true_eq]at k9;exact k9.2
 have hr:∀u∈st,0<=u/\u<=256:=fun u hu=>by
  unfold pR at k9;simp only[Bool.and_eq_true,decide_eq_true_eq,List.all_eq_true]at k9;exact k9.1 u hu
 have ZA:∀x y,jP F st=(x,y)->jf F st=(x,y,decide (x=0)):=fun x y h=>by
  unfold jf;rw[if_pos k9,h]
 have g2:f' 2=.pointer (some ⟨b2,0,none⟩):=by rw[zJ 2 (by decide)];simp-implicitDefEqProofs only[go_sem,zS,↓reduceIte,Za,Zb,Zc,reduceCtorEq,ae,zU,zV,Zf,Zg,Zh,Zi,Zd,Ze]
 have g3:f' 3=.pointer (some ⟨b3,0,none⟩):=by rw[zJ 3 (by decide)];simp-implicitDefEqProofs only[go_sem,zS,↓reduceIte,Za,Zb,Zc,reduceCtorEq,ae,zU,zV,Zf,Zg,Zh,Zi,Zd,Ze]
 have g4:f' 4=.pointer (some ⟨b4,0,none⟩):=by rw[zJ 4 (by decide)];simp-implicitDefEqProofs only[go_sem,zS,↓reduceIte,Za,Zb,Zc,reduceCtorEq,ae,zU,zV,Zf,Zg,Zh,Zi,Zd,Ze]
 have g5:f' 5=.pointer (some ⟨b5,0,none⟩):=by rw[zJ 5 (by decide)];simp-implicitDefEqProofs only[go_sem,zS,↓reduceIte,Za,Zb,Zc,reduceCtorEq,ae,zU,zV,Zf,Zg,Zh,Zi,Zd,Ze]
 have OP:f' 134=undef:=by rw[zJ 134 (by decide)];simp-implicitDefEqProofs only[go_sem,zS,↓reduceIte,Za,Zb,Zc,reduceCtorEq,ae,zU,zV,Zf,Zg,Zh,Zi,Zd,Ze]
 have Hh:=KA.bl pt (by simp);have MA:=KA.bl zd (by simp);have Wv:=KA.bl FP (by simp);have B5A:=KA.bl mM (by simp);have c2:cell A ⟨b2,2,none⟩=some d:=by rw[Hh.cell];rfl
 have JB:=pD.trans KA;have hso:∀q,aV sv q->q<H.size:=fun q hq=>hst.bE hq;have Xb:=FP.lt;have Xc:=mM.lt;have sA:=KA.size;have bE:∀X,af (fun p=>p=b4\/p=b5) A X->af (fun _=>False) H X:=fun X K=>JB.trans' K fun p hp h=>by omega
 simp-implicitDefEqProofs only[go_sem,zS,↓reduceIte,Za,Zb,Zc,reduceCtorEq,ae,zU,zV,Zf,Zg,Zh,Zi,Zd,Ze,zF,g2,c2,h3.aq,h3.len];refine aL F.di.length [45,7,6,8,9,65,44] rfl rfl (by omega) (by simp-implicitDefEqProofs only[go_sem,zS,↓reduceIte,Za,Zb,Zc,reduceCtorEq,ae,zU,zV,Zf,Zg,Zh,Zi,Zd,Ze]) (by simp-implicitDefEqProofs only[go_sem,zS,↓reduceIte,Za,Zb,Zc,reduceCtorEq,ae,zU,zV,Zf,Zg,Zh,Zi,Zd,Ze]) (fun i g X=>(∀j,(hj:j<F.di.length)->j<i->ft st F.di[j]=false)/\Bl X b4 [.int .i64 0,.int .i64 0]/\Bl X b5 [.bool false]/\af (fun p=>p=b4\/p=b5) A X) ⟨fun j _ h=>by omega,Wv,B5A,af.refl _ _⟩ ?_ ?_
 ·rintro i g X hi gi gn ⟨hp,j4,j5,KX⟩;simp-implicitDefEqProofs only[go_sem,zS,↓reduceIte,Za,Zb,Zc,reduceCtorEq,ae,zU,zV,Zf,Zg,Zh,Zi,Zd,Ze]at gi gn;have lh:=bE X KX;have sX:=KX.size;obtain⟨pb,po,pc,jr,oe,hld⟩:=(h3.ai lh).elem (enc:=pE) (k:=2) (fun _=>rfl) hi;obtain⟨y,hy⟩:∃y,y=F.di[i]:=⟨_,rfl⟩
  rw[<-hy]at hld;have cP:aR X ⟨pb,po+i*2,none⟩ 2=some #[.int .i64 y.1,.int .i64 y.2]:=hld;simp-implicitDefEqProofs only[go_sem,zS,↓reduceIte,Za,Zb,Zc,reduceCtorEq,zU,zV,Zf,Zg,Zh,Zi,Zd,Ze,zF,gi,jr,aj,aB,cP];refine⟨by omega,?_⟩;refine ff [.int .i64 y.1,.int .i64 y.2] (.int .i64 (i:Int)) rfl (by simp-implicitDefEqProofs only[go_sem,zS,↓reduceIte,Za,Zb,Zc,reduceCtorEq,ae,zU,zV,Zf,Zg,Zh,Zi,Zd,Ze]) (by simp-implicitDefEqProofs only[go_sem,zS,↓reduceIte,Za,Zb,Zc,reduceCtorEq,ae,zU,zV,Zf,Zg,Zh,Zi,Zd,Ze]) rfl rfl rfl fun A1 b7 e7 z7 B7 K7=>?_;have s7:=K7.size;simp-implicitDefEqProofs only[go_sem,zS,↓reduceIte,Za,Zb,Zc,reduceCtorEq,ae,zU,zV,Zf,Zg,Zh,Zi,Zd,Ze];refine OG (i:=i) (x:=y) (by simp-implicitDefEqProofs only[go_sem,zS,↓reduceIte,Za,Zb,Zc,reduceCtorEq,ae,zU,zV,Zf,Zg,Zh,Zi,Zd,Ze,g3]) (by simp-implicitDefEqProofs only[go_sem,zS,↓reduceIte,Za,Zb,Zc,reduceCtorEq,ae,zU,zV,Zf,Zg,Zh,Zi,Zd,Ze,g4]) (by simp-implicitDefEqProofs only[go_sem,zS,↓reduceIte,Za,Zb,Zc,reduceCtorEq,ae,zU,zV,Zf,Zg,Zh,Zi,Zd,Ze,g5]) (by simp-implicitDefEqProofs only[go_sem,zS,↓reduceIte,Za,Zb,Zc,reduceCtorEq,ae,zU,zV,Zf,Zg,Zh,Zi,Zd,Ze]) (by simp-implicitDefEqProofs only[go_sem,zS,↓reduceIte,Za,Zb,Zc,reduceCtorEq,ae,zU,zV,Zf,Zg,Zh,Zi,Zd,Ze]) (K7.bl (KX.bl MA (by omega)) (by simp)) (K7.bl j4 (by simp)) (K7.bl j5 (by simp)) h45 B7 ((hst.ag lh (by simp)).ag K7 (by simp)) hl (by rw[hy];exact My i hi) (fun hh g' A2 pg w4 w5 K2'=>?_) (fun hh g' pg=>?_)
  ·refine Dc 1 i false g' A2 (by rw[pg 4 (by decide)];simp-implicitDefEqProofs only[go_sem,zS,↓reduceIte,Za,Zb,Zc,reduceCtorEq,ae,zU,zV,Zf,Zg,Zh,Zi,Zd,Ze,g4]) (by rw[pg 5 (by decide)];simp-implicitDefEqProofs only[go_sem,zS,↓reduceIte,Za,Zb,Zc,reduceCtorEq,ae,zU,zV,Zf,Zg,Zh,Zi,Zd,Ze,g5]) (by rw[pg 134 (by decide)];simp-implicitDefEqProofs only[go_sem,zS,↓reduceIte,Za,Zb,Zc,reduceCtorEq,ae,zU,zV,Zf,Zg,Zh,Zi,Zd,Ze,OP]) w4 w5 (((KA.any.trans KX).trans K7.any).trans K2') (ZA 1 i ?_);unfold jP;rw[Db hi (by rw[<-hy];exact hh) hp]
  ·simp-implicitDefEqProofs only[go_sem,zS,↓reduceIte,Za,Zb,Zc,reduceCtorEq,ae,zU,zV,Zf,Zg,Zh,Zi,Zd,Ze];exact⟨kr hi (by rw[<-hy];exact hh) hp,K7.bl j4 (by simp),K7.bl j5 (by simp),KX.trans K7.any⟩
 rintro g X gi ⟨TL,j4,j5,KX⟩;have fD:F.di.findIdx? (ft st)=none:=wV fun j hj=>TL j hj hj;have c3:cell X ⟨b2,3,none⟩=some a:=by rw[(KX.bl Hh (by omega)).cell];rfl
 simp-implicitDefEqProofs only[go_sem,zS,↓reduceIte,Za,Zb,Zc,reduceCtorEq,ae,zU,zV,Zf,Zg,Zh,Zi,Zd,Ze,zF,g2,c3,h4.aq,h4.len];refine aL F.sa.length [73,11,10,12,13,97,72] rfl rfl (by omega) (by simp-implicitDefEqProofs only[go_sem,zS,↓reduceIte,Za,Zb,Zc,reduceCtorEq,ae,zU,zV,Zf,Zg,Zh,Zi,Zd,Ze]) (by simp-implicitDefEqProofs only[go_sem,zS,↓reduceIte,Za,Zb,Zc,reduceCtorEq,ae,zU,zV,Zf,Zg,Zh,Zi,Zd,Ze]) (fun i g X=>(∀j,(hj:j<F.sa.length)->j<i->fu st F.sa[j]=false)/\Bl X b4 [.int .i64 0,.int .i64 0]/\Bl X b5 [.bool false]/\af (fun p=>p=b4\/p=b5) A X) ⟨fun j _ h=>by omega,j4,j5,KX⟩ ?_ ?_
 ·clear j4 j5 KX TL gi c3;rintro i g1 X hi gi gn ⟨hp,j4,j5,KX⟩;simp-implicitDefEqProofs only[go_sem,zS,↓reduceIte,Za,Zb,Zc,reduceCtorEq,ae,zU,zV,Zf,Zg,Zh,Zi,Zd,Ze]at gi gn;have lh:=bE X KX;have sX:=KX.size;obtain⟨pb,po,pc,jr,oe,hld⟩:=(h4.ai lh).elem (enc:=pE) (k:=2) (fun _=>rfl) hi;obtain⟨y,hy⟩:∃y,y=F.sa[i]:=⟨_,rfl⟩
  rw[<-hy]at hld;have cP:aR X ⟨pb,po+i*2,none⟩ 2=some #[.int .i64 y.1,.int .i64 y.2]:=hld;simp-implicitDefEqProofs only[go_sem,zS,↓reduceIte,Za,Zb,Zc,reduceCtorEq,zU,zV,Zf,Zg,Zh,Zi,Zd,Ze,zF,gi,jr,aj,aB,cP];refine⟨by omega,?_⟩;refine ff [.int .i64 y.1,.int .i64 y.2] (.int .i64 (i:Int)) rfl (by simp-implicitDefEqProofs only[go_sem,zS,↓reduceIte,Za,Zb,Zc,reduceCtorEq,ae,zU,zV,Zf,Zg,Zh,Zi,Zd,Ze]) (by simp-implicitDefEqProofs only[go_sem,zS,↓reduceIte,Za,Zb,Zc,reduceCtorEq,ae,zU,zV,Zf,Zg,Zh,Zi,Zd,Ze]) rfl rfl rfl fun A1 b7 e7 z7 B7 K7=>?_;have s7:=K7.size;simp-implicitDefEqProofs only[go_sem,zS,↓reduceIte,Za,Zb,Zc,reduceCtorEq,ae,zU,zV,Zf,Zg,Zh,Zi,Zd,Ze];refine OH (i:=i) (x:=y) (by simp-implicitDefEqProofs only[go_sem,zS,↓reduceIte,Za,Zb,Zc,reduceCtorEq,ae,zU,zV,Zf,Zg,Zh,Zi,Zd,Ze,g3]) (by simp-implicitDefEqProofs only[go_sem,zS,↓reduceIte,Za,Zb,Zc,reduceCtorEq,ae,zU,zV,Zf,Zg,Zh,Zi,Zd,Ze,g4]) (by simp-implicitDefEqProofs only[go_sem,zS,↓reduceIte,Za,Zb,Zc,reduceCtorEq,ae,zU,zV,Zf,Zg,Zh,Zi,Zd,Ze,g5]) (by simp-implicitDefEqProofs only[go_sem,zS,↓reduceIte,Za,Zb,Zc,reduceCtorEq,ae,zU,zV,Zf,Zg,Zh,Zi,Zd,Ze]) (by simp-implicitDefEqProofs only[go_sem,zS,↓reduceIte,Za,Zb,Zc,reduceCtorEq,ae,zU,zV,Zf,Zg,Zh,Zi,Zd,Ze]) (K7.bl (KX.bl MA (by omega)) (by simp)) (K7.bl j4 (by simp)) (K7.bl j5 (by simp)) h45 B7 ((hst.ag lh (by simp)).ag K7 (by simp)) hl (by rw[hy];exact Q9 i hi) (fun hh g' A2 pg w4 w5 K2'=>?_) (fun hh g' pg=>?_)
  ·refine Dc 2 i false g' A2 (by rw[pg 4 (by decide)];simp-implicitDefEqProofs only[go_sem,zS,↓reduceIte,Za,Zb,Zc,reduceCtorEq,ae,zU,zV,Zf,Zg,Zh,Zi,Zd,Ze,g4]) (by rw[pg 5 (by decide)];simp-implicitDefEqProofs only[go_sem,zS,↓reduceIte,Za,Zb,Zc,reduceCtorEq,ae,zU,zV,Zf,Zg,Zh,Zi,Zd,Ze,g5]) (by rw[pg 134 (by decide)];simp-implicitDefEqProofs only[go_sem,zS,↓reduceIte,Za,Zb,Zc,reduceCtorEq,ae,zU,zV,Zf,Zg,Zh,Zi,Zd,Ze,OP]) w4 w5 (((KA.any.trans KX).trans K7.any).trans K2') (ZA 2 i ?_);unfold jP;rw[fD,Db hi (by rw[<-hy];exact hh) hp]
  ·simp-implicitDefEqProofs only[go_sem,zS,↓reduceIte,Za,Zb,Zc,reduceCtorEq,ae,zU,zV,Zf,Zg,Zh,Zi,Zd,Ze];exact⟨kr hi (by rw[<-hy];exact hh) hp,K7.bl j4 (by simp),K7.bl j5 (by simp),KX.trans K7.any⟩
 clear j4 j5 KX c3;rintro g1 X gi1 ⟨MC,j4,j5,KX⟩;have fS:F.sa.findIdx? (fu st)=none:=wV fun j hj=>MC j hj hj;have c4:cell X ⟨b2,4,none⟩=some m:=by rw[(KX.bl Hh (by omega)).cell];rfl
 have pO:ms.length=F.mo.length:=h6.len;simp-implicitDefEqProofs only[go_sem,zS,↓reduceIte,Za,Zb,Zc,reduceCtorEq,ae,zU,zV,Zf,Zg,Zh,Zi,Zd,Ze,zF,g2,c4,h5.aq,h5.len,pO];refine aL F.mo.length [105,14,15,16,111,134,112,17,18,118,129,104] rfl rfl (by omega) (by simp-implicitDefEqProofs only[go_sem,zS,↓reduceIte,Za,Zb,Zc,reduceCtorEq,ae,zU,zV,Zf,Zg,Zh,Zi,Zd,Ze]) (by simp-implicitDefEqProofs only[go_sem,zS,↓reduceIte,Za,Zb,Zc,reduceCtorEq,ae,zU,zV,Zf,Zg,Zh,Zi,Zd,Ze]) (fun i g X=>(∀j,(hj:j<F.mo.length)->j<i->iy st F.mo[j]=false)/\(iJ (g 134)).Nodup/\(∀p∈iJ (g 134),H4.size<=p/\X[p]?=some (.deferred (some [])))/\Bl X b4 [.int .i64 0,.int .i64 0]/\Bl X b5 [.bool false]/\af (fun p=>p=b4\/p=b5) A X) ⟨fun j _ h=>by omega,?_,?_,j4,j5,KX⟩ ?_ ?_
 ·simp-implicitDefEqProofs only[go_sem,zS,↓reduceIte,Za,Zb,Zc,reduceCtorEq,ae,zU,zV,Zf,Zg,Zh,Zi,Zd,Ze,OP,cC];exact List.nodup_nil
 ·simp[go_sem,zS,↓reduceIte,Za,Zb,Zc,reduceCtorEq,ae,zU,zV,Zf,Zg,Zh,Zi,Zd,Ze,OP,cC]
 ·clear j4 j5 KX c4 MC gi1;rintro i Va X hi gi gn ⟨hp,hnd,hmk,j4,j5,KX⟩;simp-implicitDefEqProofs only[go_sem,zS,↓reduceIte,Za,Zb,Zc,reduceCtorEq,ae,zU,zV,Zf,Zg,Zh,Zi,Zd,Ze]at gi gn hnd hmk;have lh:=bE X KX;have sX:=KX.size;have hmi:i<ms.length:=by omega
  obtain⟨pb,po,pc,jr,oe,hld⟩:=(h5.ai lh).elem iz hmi;obtain⟨x,hx⟩:∃x,x=ms[i]:=⟨_,rfl⟩
  obtain⟨y,hy⟩:∃y,y=F.mo[i]:=⟨_,rfl⟩
  obtain⟨x1,xm⟩:=h6.at_ i hmi hi;rw[<-hx,<-hy]at x1 xm;rw[<-hx]at hld;rw[pO]at jr;have cP:aR X ⟨pb,po+i*2,none⟩ 2=some #[.int .i64 x.1,iK x]:=hld;simp-implicitDefEqProofs only[go_sem,zS,↓reduceIte,Za,Zb,Zc,reduceCtorEq,zU,zV,Zf,Zg,Zh,Zi,Zd,Ze,zF,gi,jr,aj,aB,cP];refine⟨by omega,?_⟩;refine al fun A1 b14 e14 z14 BN NH=>?_;have s14:=NH.size;simp-implicitDefEqProofs only[go_sem,zS,↓reduceIte,Za,Zb,Zc,reduceCtorEq,zU,zV,Zf,Zg,Zh,Zi,Zd,Ze,zF];refine al fun A2 b15 ZB z15 TJ SU=>?_;have s15:=SU.size;have Ba:Bl A2 b15 [.int .i64 0,.slice none 0 0]:=TJ;have t14:=(SU.bl BN (by simp)).br (o:=0) (by simp);have C14:=(SU.bl BN (by simp)).ax 0 (.int .i64 (i:Int));have L1:af (fun q=>q=b14) A2 (ax A2 ⟨b14,0,none⟩ (.int .i64 (i:Int))):=(af.refl _ _).ax _ (.inl rfl);have C15:=L1.bl Ba (by omega);have t15:=C15.bK (o:=0) (n:=2) (by simp);have D15:=C15.az 0 [.int .i64 x.1,iK x];have L2:af (fun q=>q=b15) (ax A2 ⟨b14,0,none⟩ (.int .i64 (i:Int))) (az (ax A2 ⟨b14,0,none⟩ (.int .i64 (i:Int))) ⟨b15,0,none⟩ [.int .i64 x.1,iK x]):=(af.refl _ _).az _ (.inl rfl);have D14:=L2.bl C14 (by omega);have ha:bI #[.int .i64 x.1,iK x]:=bg rfl;simp-implicitDefEqProofs only[go_sem,zS,↓reduceIte,Za,Zb,Zc,reduceCtorEq,ae,zU,zV,Zf,Zg,Zh,Zi,Zd,Ze,zF,t14,t15];refine⟨ha,?_⟩;generalize az (ax A2 ⟨b14,0,none⟩ (.int .i64 (i:Int))) ⟨b15,0,none⟩ [.int .i64 x.1,iK x]=X3 at L2 D14 D15⊢;have Gu:af (fun _=>False) X X3:=(((NH.trans SU).trans' L1 fun q hq h=>by omega)).trans' L2 fun q hq h=>by omega
  have s3':=Gu.size;have Gv:=lh.trans Gu;have hmx:∀q,aV (iK x) q->q<H.size:=fun q hq=>aQ.bE xm (k:=q) hq;obtain⟨m1,m2⟩:=hmo i hi;rw[<-hy]at m1 m2;have hx3:=L2.size;have Xd:∀A',af (fun q=>q=b4\/q=b5) X3 A'->∀p∈iJ (Va 134),H4.size<=p/\A'[p]?=some (.deferred (some [])):=fun A' K p hp=>by
   obtain⟨p1,p2⟩:=hmk p hp;have hlt:=(Array.getElem?_eq_some_iff.1 p2).1;refine⟨p1,?_⟩;rw[K.at_ p (by omega) (by omega),Gu.at_ p hlt (by simp)];exact p2
  refine OK c.all c.a1 c.aY c.tz (b14:=b14) (b15:=b15) (i:=i) (K:=y.1) (m:=y.2) (mv:=iK x) (st:=st) (by simp-implicitDefEqProofs only[go_sem,zS,↓reduceIte,Za,Zb,Zc,reduceCtorEq,ae,zU,zV,Zf,Zg,Zh,Zi,Zd,Ze,g3]) (by simp-implicitDefEqProofs only[go_sem,zS,↓reduceIte,Za,Zb,Zc,reduceCtorEq,ae,zU,zV,Zf,Zg,Zh,Zi,Zd,Ze,g4]) (by simp-implicitDefEqProofs only[go_sem,zS,↓reduceIte,Za,Zb,Zc,reduceCtorEq,ae,zU,zV,Zf,Zg,Zh,Zi,Zd,Ze,g5]) (by simp-implicitDefEqProofs only[go_sem,zS,↓reduceIte,Za,Zb,Zc,reduceCtorEq,ae,zU,zV,Zf,Zg,Zh,Zi,Zd,Ze]) (by simp-implicitDefEqProofs only[go_sem,zS,↓reduceIte,Za,Zb,Zc,reduceCtorEq,ae,zU,zV,Zf,Zg,Zh,Zi,Zd,Ze]) (Gu.bl (KX.bl MA (by omega)) (by simp)) (Gu.bl j4 (by simp)) (Gu.bl j5 (by simp)) D14 (by rw[<-x1];exact D15) h45 (by omega) (by omega) (by omega) (hst.ag Gv (by simp)) (fun q hq=>by have:=hso q hq;omega) (xm.ai Gv) (fun q hq=>by have:=hmx q hq;omega) (hT.ag Gv) (fun A' K=>hT.ag (Gv.trans' K fun q hq h=>by omega)) (by omega) m1 (by rw[hl];exact m2) hr (fun hh g' A' q pg zR hq TM w4 w5 KK=>?_) (fun hh g' A' q pg zR hq TM w4 w5 KK=>?_)
  ·simp-implicitDefEqProofs only[go_sem,zS,↓reduceIte,Za,Zb,Zc,reduceCtorEq,ae,zU,zV,Zf,Zg,Zh,Zi,Zd,Ze]at zR;have Hk:iJ (g' 134)=q::iJ (Va 134):=by rw[zR,iq]
   refine fin 3 i false g' A' (by rw[pg 4 (by decide)];simp-implicitDefEqProofs only[go_sem,zS,↓reduceIte,Za,Zb,Zc,reduceCtorEq,ae,zU,zV,Zf,Zg,Zh,Zi,Zd,Ze,g4]) (by rw[pg 5 (by decide)];simp-implicitDefEqProofs only[go_sem,zS,↓reduceIte,Za,Zb,Zc,reduceCtorEq,ae,zU,zV,Zf,Zg,Zh,Zi,Zd,Ze,g5]) ?_ ?_ w4 w5 (((KA.any.trans KX).trans Gu.any).trans KK) (ZA 3 i ?_)
   ·rw[Hk];refine List.nodup_cons.2 ⟨fun h=>?_,hnd⟩;have:=(Array.getElem?_eq_some_iff.1 (hmk q h).2).1;omega
   ·rw[Hk];intro p hp;rcases List.mem_cons.1 hp with rfl|hp
    ·exact⟨by omega,TM⟩
    ·exact Xd A' KK p hp
   ·unfold jP;rw[fD,fS];simp only;rw[Db hi (by rw[<-hy];exact hh) hp]
  ·simp-implicitDefEqProofs only[go_sem,zS,↓reduceIte,Za,Zb,Zc,reduceCtorEq,ae,zU,zV,Zf,Zg,Zh,Zi,Zd,Ze]at zR;have Hk:iJ (g' 134)=q::iJ (Va 134):=by rw[zR,iq]
   simp-implicitDefEqProofs only[go_sem,zS,↓reduceIte,Za,Zb,Zc,reduceCtorEq,ae,zU,zV,Zf,Zg,Zh,Zi,Zd,Ze];refine⟨kr hi (by rw[<-hy];exact hh) hp,?_,?_,w4,w5,(KX.trans Gu.any).trans KK⟩
   ·rw[Hk];refine List.nodup_cons.2 ⟨fun h=>?_,hnd⟩;have:=(Array.getElem?_eq_some_iff.1 (hmk q h).2).1;omega
   ·rw[Hk];intro p hp;rcases List.mem_cons.1 hp with rfl|hp
    ·exact⟨by omega,TM⟩
    ·exact Xd A' KK p hp
 ·rintro Va Y gi2 ⟨Xe,hnd,hmk,w4,w5,KY⟩;have fM:F.mo.findIdx? (iy st)=none:=wV fun j hj=>Xe j hj hj;simp-implicitDefEqProofs only[go_sem,zS,↓reduceIte,Za,Zb,Zc,reduceCtorEq,ae,zU,zV,Zf,Zg,Zh,Zi,Zd,Ze]at hnd hmk;have t4:=w4.bK (o:=0) (n:=2) (by simp);have W4:=w4.az 0 [.int .i64 0,.int .i64 0];have k4:af (fun q=>q=b4) Y (az Y ⟨b4,0,none⟩ [.int .i64 0,.int .i64 0]):=(af.refl _ _).az _ (.inl rfl);have nK:=k4.bl w5 (fun e=>h45 e.symm);have t5:=nK.br (o:=0) (by simp);have Hj:=nK.ax 0 (.bool true);have k5:af (fun q=>q=b5) (az Y ⟨b4,0,none⟩ [.int .i64 0,.int .i64 0]) (ax (az Y ⟨b4,0,none⟩ [.int .i64 0,.int .i64 0]) ⟨b5,0,none⟩ (.bool true)):=(af.refl _ _).ax _ (.inl rfl);have tM:=k5.bl W4 h45;have ha:bI #[Value.int .i64 0,Value.int .i64 0]:=bg rfl;have kk:=(k4.mono fun q _ e=>Or.inl (b:=q=b5) e).trans (k5.mono fun q _ e=>Or.inr (a:=q=b4) e);rw[HL,if_pos rfl];simp only[jz,Sd,vk,go_sem,zS,↓reduceIte,Za,Zb,Zc,reduceCtorEq,ae,zU,zV,Zf,Zg,Zh,Zi,Zd,Ze,zF,g4,g5,t4,t5];refine⟨ha,?_⟩;generalize ax (az Y ⟨b4,0,none⟩ [.int .i64 0,.int .i64 0]) ⟨b5,0,none⟩ (.bool true)=Z at kk tM Hj⊢;have:=fin 0 0 true (bw (bw (bw (fun _=>undef) 4 (.pointer (some ⟨b4,0,none⟩))) 5 (.pointer (some ⟨b5,0,none⟩))) 134 (Va 134)) Z (by simp-implicitDefEqProofs only[go_sem,zS,↓reduceIte,Za,Zb,Zc,reduceCtorEq,ae,zU,zV,Zf,Zg,Zh,Zi,Zd,Ze]) (by simp-implicitDefEqProofs only[go_sem,zS,↓reduceIte,Za,Zb,Zc,reduceCtorEq,ae,zU,zV,Zf,Zg,Zh,Zi,Zd,Ze]) (by simp-implicitDefEqProofs only[go_sem,zS,↓reduceIte,Za,Zb,Zc,reduceCtorEq,ae,zU,zV,Zf,Zg,Zh,Zi,Zd,Ze];exact hnd) (by
   simp-implicitDefEqProofs only[go_sem,zS,↓reduceIte,Za,Zb,Zc,reduceCtorEq,ae,zU,zV,Zf,Zg,Zh,Zi,Zd,Ze];intro p hp;obtain⟨p1,p2⟩:=hmk p hp;have hlt:=(Array.getElem?_eq_some_iff.1 p2).1;exact⟨p1,by rw[kk.at_ p hlt (by omega)];exact p2⟩) tM Hj ((KA.any.trans KY).trans kk) (ZA 0 0 (by unfold jP;rw[fD,fS,fM]))
  simpa only[ly,go_sem,zS,↓reduceIte,Za,Zb,Zc,reduceCtorEq,ae,zU,zV,Zf,Zg,Zh,Zi,Zd,Ze,zF]using this
end Go.Mg
namespace Go.Mg
open Go Go.RowKit
end Go.Mg
