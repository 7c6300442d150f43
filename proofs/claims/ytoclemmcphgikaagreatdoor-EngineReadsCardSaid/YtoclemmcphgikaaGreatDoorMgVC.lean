/- Lemmas of ours. No conditions. -/
import Derived.Test.YtoclemmcphgikaaGreatDoorMgV9
open Nat renaming reduceEqDiff→Za,reduceAdd→Zb,reduceMul→Zc,reduceLeDiff→Zd,reduceLT→Ze
open Int renaming reduceBEq→Zf,reduceBNe→Zg,reduceLE→Zh,reduceLT→Zi
set_option linter.all false
set_option maxRecDepth 100000
namespace Go.Mg
open Go Go.RowKit
def Gl (ι:aG):S:=
 kY [kC 2 (.int .i64 0)] (.seq (kY [kA 5 0,kL 6 5,kV 7 (.cm .lss .i64 (.t 6) (.c (.int .i64 1)))] (.ite (.v 7) (.reg [kU 8 (.m (.mif (ι.t 67) (.c (.string ⟨#[115,108,105,99,101,115,46,77,105,110,58,32,101,109,112,116,121,32,108,105,115,116]⟩)))),.e .no .bad]) .skip)) (kY [kA 9 0,kU 10 (.is 1 (.t 9) (.c (.int .i64 0))),kD 11 10,kB 3 11] (.seq (kY [kC 4 (.int .i64 1)] (.blk 0 (.loop (.seq (kY [kA 12 4,kA 13 0,kL 14 13,kV 15 (.cm .lss .i64 (.t 12) (.t 14))] (.ite (.v 15) .skip (.exit 0))) (.seq (.blk 1 (.reg [kA 18 3,kA 19 0,kA 20 4,kI 21 1 19 20,kD 22 21,kU 23 (.m (.mn (.t 18) (.t 22))),kB 3 23])) (.reg [kA 16 4,kU 17 (.ar .add .i64 (.t 16) (.c (.int .i64 1))),kB 4 17])))))) (kY [kA 24 3,kB 2 24] .ret))))
def Gm:List RV:=[.t 2]
def Gn (ι:aG):S:=
 kY [kC 2 (.int .i64 0)] (.seq (kY [kA 5 0,kL 6 5,kV 7 (.cm .lss .i64 (.t 6) (.c (.int .i64 1)))] (.ite (.v 7) (.reg [kU 8 (.m (.mif (ι.t 67) (.c (.string ⟨#[115,108,105,99,101,115,46,77,97,120,58,32,101,109,112,116,121,32,108,105,115,116]⟩)))),.e .no .bad]) .skip)) (kY [kA 9 0,kU 10 (.is 1 (.t 9) (.c (.int .i64 0))),kD 11 10,kB 3 11] (.seq (kY [kC 4 (.int .i64 1)] (.blk 0 (.loop (.seq (kY [kA 12 4,kA 13 0,kL 14 13,kV 15 (.cm .lss .i64 (.t 12) (.t 14))] (.ite (.v 15) .skip (.exit 0))) (.seq (.blk 1 (.reg [kA 18 3,kA 19 0,kA 20 4,kI 21 1 19 20,kD 22 21,kU 23 (.m (.mx (.t 18) (.t 22))),kB 3 23])) (.reg [kA 16 4,kU 17 (.ar .add .i64 (.t 16) (.c (.int .i64 1))),kB 4 17])))))) (kY [kA 24 3,kB 2 24] .ret))))
def Gp:List RV:=[.t 2]
def Gq (ι:aG):S:=
 (kY [kM 19 5 2,.e (.t 20) (.call (ι.f 312) [.t 19]),kU 21 (.not (.t 20)),kF 22 21,kT 23 22 false (.ld (.v 3)),kT 24 22 false (.m (.lenl (.t 23))),kT 25 22 false (.fa 0 (.v 2)),kT 26 22 false (.ld (.t 25)),kT 27 22 false (.m (.lenl (.t 26))),kT 28 22 false (.cm .neq .i64 (.t 24) (.t 27)),kU 29 (.pick (.t 22) (.c (.bool true)) (.t 28)),kF 30 29,kT 31 30 false (.ld (.v 3)),.ge (.t 32) (.t 30) false (.call (ι.f 316) [.t 31]),kT 33 30 false (.cm .lss .i64 (.t 32) (.c (.int .i64 0))),kU 34 (.pick (.t 30) (.c (.bool true)) (.t 33)),kF 35 34,kT 36 35 false (.ld (.v 3)),.ge (.t 37) (.t 35) false (.call (ι.f 317) [.t 36]),kT 38 35 false (.cm .gtr .i64 (.t 37) (.c (.int .i64 256))),kV 39 (.pick (.t 35) (.c (.bool true)) (.t 38))] (.ite (.v 39) (kY [kU 40 (.m (.bld #[.int .i64 0,.int .i64 0] [])),.e .no (.stn 2 (.v 4) (.t 40)),.e .no (.st (.v 5) (.c (.bool false)))] .ret) .skip))
def Gr (ι:aG):S:=
 (kY [kU 49 (.ld (.v 3)),kP 50 2 1 7 0,kD 51 50,kI 52 1 49 51,kD 53 52,kU 54 (.ld (.v 3)),kP 55 2 1 7 1,kD 56 55,kI 57 1 54 56,kD 58 57,kB 8 53,kB 9 58] (kY [kA 59 8,kU 60 (.cm .neq .i64 (.t 59) (.c (.int .i64 0))),kF 61 60,kS 62 61 true 8,kS 63 61 true 9,kT 64 61 true (.cm .eql .i64 (.t 62) (.t 63)),kV 65 (.pick (.t 61) (.t 64) (.c (.bool false)))] (.ite (.v 65) (kY [kA 66 6,kU 67 (.m (.bld #[.int .i64 0,.int .i64 0] [(0,(1,.c (.int .i64 1))),(1,(1,.t 66))])),.e .no (.stn 2 (.v 4) (.t 67)),.e .no (.st (.v 5) (.c (.bool false)))] .ret) .skip)))
def Gs (ι:aG):S:=
 (kY [kU 77 (.ld (.v 3)),kP 78 2 1 11 0,kD 79 78,kI 80 1 77 79,kD 81 80,kU 82 (.ld (.v 3)),kP 83 2 1 11 1,kD 84 83,kI 85 1 82 84,kD 86 85,kB 12 81,kB 13 86] (kY [kA 87 12,kU 88 (.cm .neq .i64 (.t 87) (.c (.int .i64 0))),kF 89 88,kS 90 89 true 13,kT 91 89 true (.cm .neq .i64 (.t 90) (.c (.int .i64 0))),kJ 92 89 91,kF 93 92,kS 94 93 true 12,kS 95 93 true 13,kT 96 93 true (.cm .neq .i64 (.t 94) (.t 95)),kV 97 (.pick (.t 93) (.t 96) (.c (.bool false)))] (.ite (.v 97) (kY [kA 98 10,kU 99 (.m (.bld #[.int .i64 0,.int .i64 0] [(0,(1,.c (.int .i64 2))),(1,(1,.t 98))])),.e .no (.stn 2 (.v 4) (.t 99)),.e .no (.st (.v 5) (.c (.bool false)))] .ret) .skip)))
def Gt (ι:aG):S:=
 (.blk 7 (kY [kU 113 (.ld (.v 3)),kA 114 17,kI 115 1 113 114,kD 116 115,kB 18 116] (kY [kA 117 18,kV 118 (.cm .neq .i64 (.t 117) (.c (.int .i64 0)))] (.ite (.v 118) (kY [kA 119 18,kU 120 (.ia 257 1 (.v 16) (.t 119)),kD 121 120,kU 122 (.ar .add .i64 (.t 121) (.c (.int .i64 1))),kU 123 (.ia 257 1 (.v 16) (.t 119)),.e .no (.st (.t 123) (.t 122))] (.seq (.dr (kW 124 (.mv (.v 18)) (kW 125 (.ia 257 1 (.v 16) (.t 124)) (kW 126 (.ld (.t 125)) (kW 127 (.fa 0 (.v 15)) (kW 128 (.ld (.t 127)) (kX 129 (.cm .gtr .i64 (.t 126) (.t 128)) .done))))))) (.ite (.v 129) (kY [kU 130 (.ld (.v 14)),kU 131 (.m (.bld #[.int .i64 0,.int .i64 0] [(0,(1,.c (.int .i64 3))),(1,(1,.t 130))])),.e .no (.stn 2 (.v 4) (.t 131)),.e .no (.st (.v 5) (.c (.bool false)))] .ret) .skip))) .skip))))
def Gu (ι:aG):S:=
 (kY [.e (.v 16) (.new (ι.t 319) (Array.replicate 257 (.int .i64 0)))] (kY [kG 109 1 15,kN 110 1 109,.e (.v 111) (.call (ι.f 137) [.t 110])] (.blk 6 (.rf 134 (.v 111) 112 17 (Gt ι)))))
def Gv (ι:aG):S:=
 kY [kR 2 (ι.t 296) 0,kR 3 (ι.t 138) 1,.e (.v 4) (.new (ι.t 318) #[.int .i64 0,.int .i64 0]),.e (.v 5) (.new (ι.t 151) #[.bool false])] (.seq (Gq ι) (.seq (kY [kG 41 2 2,kV 42 (.ld (.t 41)),kO 43 42,kC 44 (.int .i64 0)] (.blk 0 (.loop (kY [kH 45 44 43] (.seq (.ite (.v 45) .skip (.exit 0)) (.seq (.blk 1 (kY [kA 46 44,kK 47 2 42 44,kN 48 2 47,.e (.v 7) (.new (ι.t 194) #[.int .i64 0,.int .i64 0]),kB 6 46,.e .no (.stn 2 (.v 7) (.t 48))] (Gr ι))) (.reg [ke 68 44,kB 44 68]))))))) (.seq (kY [kG 69 3 2,kV 70 (.ld (.t 69)),kO 71 70,kC 72 (.int .i64 0)] (.blk 2 (.loop (kY [kH 73 72 71] (.seq (.ite (.v 73) .skip (.exit 2)) (.seq (.blk 3 (kY [kA 74 72,kK 75 2 70 72,kN 76 2 75,.e (.v 11) (.new (ι.t 194) #[.int .i64 0,.int .i64 0]),kB 10 74,.e .no (.stn 2 (.v 11) (.t 76))] (Gs ι))) (.reg [ke 100 72,kB 72 100]))))))) (.seq (kY [kG 101 4 2,kV 102 (.ld (.t 101)),kO 103 102,kC 104 (.int .i64 0)] (.blk 4 (.loop (kY [kH 105 104 103] (.seq (.ite (.v 105) .skip (.exit 4)) (.seq (.blk 5 (kY [kA 106 104,kK 107 2 102 104,kN 108 2 107,.e (.v 14) (.new (ι.t 26) #[.int .i64 0]),.e (.v 15) (.new (ι.t 298) #[.int .i64 0,kZ]),.e .no (.st (.v 14) (.t 106)),.e .no (.stn 2 (.v 15) (.t 108))] (Gu ι))) (.reg [ke 132 104,kB 104 132]))))))) (kY [kU 133 (.m (.bld #[.int .i64 0,.int .i64 0] [])),.e .no (.stn 2 (.v 4) (.t 133)),.e .no (.st (.v 5) (.c (.bool true)))] .ret)))))
def Gw:List RV:=[.cn 4 2,.c1 5]
def zY (P:Program) (k:FuncId):Prop:=∀(l:List Int) (v:Value) (H:Hp),aO H v (iL l)->l≠[]->l.length<=1000->an P k #[v] H fun r H'=>(∃m,r=.int .i64 m/\(m<0↔∃u∈l,u<0))/\H'=H
def zZ (P:Program) (k:FuncId):Prop:=∀(l:List Int) (v:Value) (H:Hp),aO H v (iL l)->l≠[]->l.length<=1000->an P k #[v] H fun r H'=>(∃m,r=.int .i64 m/\(256<m↔∃u∈l,256<u))/\H'=H
variable {P:Program} {ι:aG} {k:FuncId} {A:Hp} {sv Gx Gy c5:Value} {st:List Int} {f:Fr} {b3 b4 b5 b7 i n:Nat} {x:fV} {Qb:Ex->Fr->Hp->Prop}
theorem Ub (hk:al P k (Gl ι) Gm 1):zY P k:=by
 intro l v H hv hne hl;refine qI fun Q hQ=>?_;refine ah hk (args:=[_]) (by simp) ?_;unfold Gl Gm kA kB kC kD kI kL kU kV kY;have hlp:0<l.length:=List.length_pos_iff.2 hne;obtain⟨b,o,c,Xj,hc,hcell⟩:=hv.cells (by simpa[iL]using hne);rw[aA]at Xj hcell;have hci:∀i,i<l.length->cell H ⟨b,o+i,none⟩=some (.int .i64 (l.getD i 0)):=fun i hi=>by rw[hcell i hi,dk _ _ hi]
 have c0:=hci 0 hlp;rw[Nat.add_zero]at c0;have d1:decide ((l.length:Int)<1)=false:=decide_eq_false (by omega);simp only[go_sem,Za,Zb,ae,Xj,d1,c0];refine⟨by omega,?_⟩;refine aS [15,3,4] rfl (fun m f A=>∃(i:Nat) (x:Int),1<=i/\i<=l.length/\m=l.length -i/\f 4=.int .i64 (i:Int)/\f 3=.int .i64 x/\(x<0↔∃j<i,l.getD j 0<0)/\A=H) (l.length -1) ?_ ?_
 ·exact⟨1,l.getD 0 0,by omega,hlp,rfl,by simp only[go_sem,Za,Zb,ae],by simp only[go_sem,Za,Zb,ae],⟨fun h=>⟨0,by omega,h⟩,fun⟨j,hj,h⟩=>by rw[show j=0 by omega]at h;exact h⟩,rfl⟩
 rintro m f A ⟨i,x,h1,hi,rfl,f4,f3,hx,rfl⟩;simp only[go_sem,Za,Zb,ae]at f4 f3;simp only[go_sem,Za,Zb,ae,f4];refine aL (fun hlt=>?_) (fun jN=>?_)
 ·have hlt:i<l.length:=by omega
  simp-implicitDefEqProofs (disch:=omega)only[go_sem,Za,Zb,ae,f3,f4,ak,hci i hlt,kindOf,IntWalk.i64_in];refine⟨by omega,l.length -(i+1),by omega,i+1,_,by omega,by omega,rfl,rfl,rfl,?_⟩
  constructor
  ·intro h
   split at h
   ·exact⟨i,by omega,h⟩
   ·obtain⟨j,hj,hh⟩:=hx.1 h;exact⟨j,by omega,hh⟩
  ·rintro⟨j,hj,hh⟩
   by_cases e:j=i
   ·subst e;split<;>omega
   ·have:=hx.2 ⟨j,by omega,hh⟩
    split<;>omega
 ·have:i=l.length:=by omega
  subst this;simp only[go_sem,Za,Zb,ae,f3];rw[hQ];refine⟨⟨x,rfl,hx.trans ⟨?_,?_⟩⟩,rfl⟩
  ·rintro⟨j,hj,h⟩;rw[List.getD_eq_getElem?_getD,List.getElem?_eq_getElem hj]at h;exact⟨_,List.getElem_mem hj,h⟩
  ·rintro⟨u,hu,h⟩;obtain⟨j,hj,rfl⟩:=List.getElem_of_mem hu;exact⟨j,hj,by rw[List.getD_eq_getElem?_getD,List.getElem?_eq_getElem hj];exact h⟩
theorem Uc (hk:al P k (Gn ι) Gp 1):zZ P k:=by
 intro l v H hv hne hl;refine qI fun Q hQ=>?_;refine ah hk (args:=[_]) (by simp) ?_;unfold Gn Gp kA kB kC kD kI kL kU kV kY;have hlp:0<l.length:=List.length_pos_iff.2 hne;obtain⟨b,o,c,Xj,hc,hcell⟩:=hv.cells (by simpa[iL]using hne);rw[aA]at Xj hcell;have hci:∀i,i<l.length->cell H ⟨b,o+i,none⟩=some (.int .i64 (l.getD i 0)):=fun i hi=>by rw[hcell i hi,dk _ _ hi]
 have c0:=hci 0 hlp;rw[Nat.add_zero]at c0;have d1:decide ((l.length:Int)<1)=false:=decide_eq_false (by omega);simp only[go_sem,Za,Zb,ae,Xj,d1,c0];refine⟨by omega,?_⟩;refine aS [15,3,4] rfl (fun m f A=>∃(i:Nat) (x:Int),1<=i/\i<=l.length/\m=l.length -i/\f 4=.int .i64 (i:Int)/\f 3=.int .i64 x/\(256<x↔∃j<i,256<l.getD j 0)/\A=H) (l.length -1) ?_ ?_
 ·exact⟨1,l.getD 0 0,by omega,hlp,rfl,by simp only[go_sem,Za,Zb,ae],by simp only[go_sem,Za,Zb,ae],⟨fun h=>⟨0,by omega,h⟩,fun⟨j,hj,h⟩=>by rw[show j=0 by omega]at h;exact h⟩,rfl⟩
 rintro m f A ⟨i,x,h1,hi,rfl,f4,f3,hx,rfl⟩;simp only[go_sem,Za,Zb,ae]at f4 f3;simp only[go_sem,Za,Zb,ae,f4];refine aL (fun hlt=>?_) (fun jN=>?_)
 ·have hlt:i<l.length:=by omega
  simp-implicitDefEqProofs (disch:=omega)only[go_sem,Za,Zb,ae,f3,f4,ak,hci i hlt,kindOf,IntWalk.i64_in];refine⟨by omega,l.length -(i+1),by omega,i+1,_,by omega,by omega,rfl,rfl,rfl,?_⟩
  constructor
  ·intro h
   split at h
   ·exact⟨i,by omega,h⟩
   ·obtain⟨j,hj,hh⟩:=hx.1 h;exact⟨j,by omega,hh⟩
  ·rintro⟨j,hj,hh⟩
   by_cases e:j=i
   ·subst e;split<;>omega
   ·have:=hx.2 ⟨j,by omega,hh⟩
    split<;>omega
 ·have:i=l.length:=by omega
  subst this;simp only[go_sem,Za,Zb,ae,f3];rw[hQ];refine⟨⟨x,rfl,hx.trans ⟨?_,?_⟩⟩,rfl⟩
  ·rintro⟨j,hj,h⟩;rw[List.getD_eq_getElem?_getD,List.getElem?_eq_getElem hj]at h;exact⟨_,List.getElem_mem hj,h⟩
  ·rintro⟨u,hu,h⟩;obtain⟨j,hj,rfl⟩:=List.getElem_of_mem hu;exact⟨j,hj,by rw[List.getD_eq_getElem?_getD,List.getElem?_eq_getElem hj];exact h⟩
theorem bJ (hs:aO A sv (iL st)) {a:Int} (h0:0<=a) (h1:a<st.length):∃b o c,sv=.slice (some ⟨b,o,none⟩) st.length c/\cell A ⟨b,o+a.toNat,none⟩=some (.int .i64 (sI st a)):=by
 obtain⟨b,o,c,Xj,hc,hcell⟩:=hs.cells (by intro e;have:=aA st;rw[e]at this;simp at this;omega);rw[aA]at Xj hcell;exact⟨b,o,c,Xj,by rw[hcell _ (by omega),dk _ _ (by omega)];rfl⟩
theorem Ud (h3:f 3=.pointer (some ⟨b3,0,none⟩)) (h4:f 4=.pointer (some ⟨b4,0,none⟩)) (h5:f 5=.pointer (some ⟨b5,0,none⟩)) (h6:f 6=.int .i64 (i:Int)) (h7:f 7=.pointer (some ⟨b7,0,none⟩))
  (B3:Bl A b3 [sv]) (B4:Bl A b4 [Gx,Gy]) (B5:Bl A b5 [c5]) (h45:b4≠b5) (B7:Bl A b7 (pE x)) (hs:aO A sv (iL st)) (hn:st.length=n) (hx:kg (n:Int) x)
  (hT:fP st x=true->∀f' A',(∀j,j∉[8,9,65]->f' j=f j)->Bl A' b4 [.int .i64 1,.int .i64 (i:Int)]->Bl A' b5 [.bool false]->af (fun q=>q=b4\/q=b5) A A'->Qb .r f' A') (hF:fP st x=false->∀f',(∀j,j∉[8,9,65]->f' j=f j)->Qb .n f' A):vc P (Gr ι) Qb f A:=by
 unfold Gr kA kB kF kD kI kP kS kT kU kV kY;obtain⟨x1,x2,x3,x4⟩:=hx;have c3:cell A ⟨b3,0,none⟩=some sv:=by rw[B3.cell];rfl
 have sg:cell A ⟨b7,0,none⟩=some (.int .i64 x.1):=by rw[B7.cell];rfl
 have pY:cell A ⟨b7,1,none⟩=some (.int .i64 x.2):=by rw[B7.cell];rfl
 obtain⟨sb,so,sc,rfl,k1⟩:=bJ hs x1 (by omega);obtain⟨sb',so',sc',e,k2⟩:=bJ hs x3 (by omega);simp only[Value.slice.injEq,Option.some.injEq,Addr.mk.injEq,true_and,and_true]at e;obtain⟨⟨rfl,rfl⟩,rfl⟩:=e;have ai:∀(u w z:Value),∀j,j∉[8,9,65]->bL (bL (bL f 8 u) 9 w) 65 z j=f j:=fun u w z j hj=>by
  simp only[List.mem_cons,List.not_mem_nil,or_false,not_or]at hj;simp only[bL,hj.1,hj.2.1,hj.2.2,if_false]
 have t4:=B4.bM (o:=0) (n:=2) (by simp);have rZ:=B4.aB 0 [.int .i64 1,.int .i64 (i:Int)];have k4:af (fun q=>q=b4) A (aB A ⟨b4,0,none⟩ [.int .i64 1,.int .i64 (i:Int)]):=(af.refl _ _).aB _ (.inl rfl);have yU:=k4.bl B5 (fun e=>h45 e.symm);have t5:=yU.bu (o:=0) (by simp);have R9:=yU.az 0 (.bool false);have k5:af (fun q=>q=b5) (aB A ⟨b4,0,none⟩ [.int .i64 1,.int .i64 (i:Int)]) (az (aB A ⟨b4,0,none⟩ [.int .i64 1,.int .i64 (i:Int)]) ⟨b5,0,none⟩ (.bool false)):=(af.refl _ _).az _ (.inl rfl);have wQ:=k5.bl rZ h45;have kk:=(k4.mono fun q _ e=>Or.inl (b:=q=b5) e).trans (k5.mono fun q _ e=>Or.inr (a:=q=b4) e);have ha:bO #[Value.int .i64 1,Value.int .i64 (i:Int)]:=bd rfl
 by_cases e1:sI st x.1=0
 ·have d1:(sI st x.1 !=0)=false:=by rw[e1];rfl
  simp-implicitDefEqProofs only[go_sem,↓reduceIte,Za,Zb,Zc,reduceCtorEq,ae,Zf,Zg,Zh,Zi,Zd,Ze,h3,h7,c3,sg,pY,k1,k2,d1];refine⟨by omega,by omega,hF ?_ _ (ai _ _ _)⟩;simp[fP,e1]
 have d1:(sI st x.1 !=0)=true:=bne_iff_ne.2 e1
 by_cases e2:sI st x.1=sI st x.2
 ·have d2:(sI st x.1==sI st x.2)=true:=by rw[e2];simp
  simp-implicitDefEqProofs only[go_sem,↓reduceIte,Za,Zb,Zc,reduceCtorEq,ae,Zf,Zg,Zh,Zi,Zd,Ze,h3,h4,h5,h6,h7,c3,sg,pY,k1,k2,d1,d2,t4,t5];refine⟨by omega,by omega,ha,?_⟩;refine hT ?_ _ _ (ai _ _ _) wQ R9 kk;simp only[fP,Bool.and_eq_true,decide_eq_true_eq];exact⟨e1,e2⟩
 ·have d2:(sI st x.1==sI st x.2)=false:=by simp[e2]
  simp-implicitDefEqProofs only[go_sem,↓reduceIte,Za,Zb,Zc,reduceCtorEq,ae,Zf,Zg,Zh,Zi,Zd,Ze,h3,h7,c3,sg,pY,k1,k2,d1,d2];refine⟨by omega,by omega,hF ?_ _ (ai _ _ _)⟩;simp[fP,e2]
theorem Ue (h3:f 3=.pointer (some ⟨b3,0,none⟩)) (h4:f 4=.pointer (some ⟨b4,0,none⟩)) (h5:f 5=.pointer (some ⟨b5,0,none⟩)) (h6:f 10=.int .i64 (i:Int)) (h7:f 11=.pointer (some ⟨b7,0,none⟩))
  (B3:Bl A b3 [sv]) (B4:Bl A b4 [Gx,Gy]) (B5:Bl A b5 [c5]) (h45:b4≠b5) (B7:Bl A b7 (pE x)) (hs:aO A sv (iL st)) (hn:st.length=n) (hx:kg (n:Int) x)
  (hT:eO st x=true->∀f' A',(∀j,j∉[12,13,97]->f' j=f j)->Bl A' b4 [.int .i64 2,.int .i64 (i:Int)]->Bl A' b5 [.bool false]->af (fun q=>q=b4\/q=b5) A A'->Qb .r f' A') (hF:eO st x=false->∀f',(∀j,j∉[12,13,97]->f' j=f j)->Qb .n f' A):vc P (Gs ι) Qb f A:=by
 unfold Gs kA kB kF kD kI kJ kP kS kT kU kV kY;obtain⟨x1,x2,x3,x4⟩:=hx;have c3:cell A ⟨b3,0,none⟩=some sv:=by rw[B3.cell];rfl
 have sg:cell A ⟨b7,0,none⟩=some (.int .i64 x.1):=by rw[B7.cell];rfl
 have pY:cell A ⟨b7,1,none⟩=some (.int .i64 x.2):=by rw[B7.cell];rfl
 obtain⟨sb,so,sc,rfl,k1⟩:=bJ hs x1 (by omega);obtain⟨sb',so',sc',e,k2⟩:=bJ hs x3 (by omega);simp only[Value.slice.injEq,Option.some.injEq,Addr.mk.injEq,true_and,and_true]at e;obtain⟨⟨rfl,rfl⟩,rfl⟩:=e;have ai:∀(u w z:Value),∀j,j∉[12,13,97]->bL (bL (bL f 12 u) 13 w) 97 z j=f j:=fun u w z j hj=>by
  simp only[List.mem_cons,List.not_mem_nil,or_false,not_or]at hj;simp only[bL,hj.1,hj.2.1,hj.2.2,if_false]
 have t4:=B4.bM (o:=0) (n:=2) (by simp);have rZ:=B4.aB 0 [.int .i64 2,.int .i64 (i:Int)];have k4:af (fun q=>q=b4) A (aB A ⟨b4,0,none⟩ [.int .i64 2,.int .i64 (i:Int)]):=(af.refl _ _).aB _ (.inl rfl);have yU:=k4.bl B5 (fun e=>h45 e.symm);have t5:=yU.bu (o:=0) (by simp);have R9:=yU.az 0 (.bool false);have k5:af (fun q=>q=b5) (aB A ⟨b4,0,none⟩ [.int .i64 2,.int .i64 (i:Int)]) (az (aB A ⟨b4,0,none⟩ [.int .i64 2,.int .i64 (i:Int)]) ⟨b5,0,none⟩ (.bool false)):=(af.refl _ _).az _ (.inl rfl);have wQ:=k5.bl rZ h45;have kk:=(k4.mono fun q _ e=>Or.inl (b:=q=b5) e).trans (k5.mono fun q _ e=>Or.inr (a:=q=b4) e);have ha:bO #[Value.int .i64 2,Value.int .i64 (i:Int)]:=bd rfl
 by_cases e1:sI st x.1=0
 ·have d1:(sI st x.1 !=0)=false:=by rw[e1];rfl
  simp-implicitDefEqProofs only[go_sem,↓reduceIte,Za,Zb,Zc,reduceCtorEq,ae,Zf,Zg,Zh,Zi,Zd,Ze,h3,h7,c3,sg,pY,k1,k2,d1];refine⟨by omega,by omega,hF ?_ _ (ai _ _ _)⟩;simp[eO,e1]
 have d1:(sI st x.1 !=0)=true:=bne_iff_ne.2 e1
 by_cases e0:sI st x.2=0
 ·have d0:(sI st x.2 !=0)=false:=by rw[e0];rfl
  simp-implicitDefEqProofs only[go_sem,↓reduceIte,Za,Zb,Zc,reduceCtorEq,ae,Zf,Zg,Zh,Zi,Zd,Ze,h3,h7,c3,sg,pY,k1,k2,d1,d0];refine⟨by omega,by omega,hF ?_ _ (ai _ _ _)⟩;simp[eO,e0]
 have d0:(sI st x.2 !=0)=true:=bne_iff_ne.2 e0
 by_cases e2:sI st x.1=sI st x.2
 ·have d2:(sI st x.1 !=sI st x.2)=false:=by rw[e2];simp
  simp-implicitDefEqProofs only[go_sem,↓reduceIte,Za,Zb,Zc,reduceCtorEq,ae,Zf,Zg,Zh,Zi,Zd,Ze,h3,h7,c3,sg,pY,k1,k2,d1,d0,d2];refine⟨by omega,by omega,hF ?_ _ (ai _ _ _)⟩;simp[eO,e2]
 ·have d2:(sI st x.1 !=sI st x.2)=true:=bne_iff_ne.2 e2;simp-implicitDefEqProofs only[go_sem,↓reduceIte,Za,Zb,Zc,reduceCtorEq,ae,Zf,Zg,Zh,Zi,Zd,Ze,h3,h4,h5,h6,h7,c3,sg,pY,k1,k2,d1,d0,d2,t4,t5];refine⟨by omega,by omega,ha,?_⟩;refine hT ?_ _ _ (ai _ _ _) wQ R9 kk;simp only[eO,Bool.and_eq_true,decide_eq_true_eq];exact⟨⟨e1,e0⟩,e2⟩
theorem Uf {b14 b15 DM kk:Nat} {K:Int} {mv:Value} {T:List Int} (h3:f 3=.pointer (some ⟨b3,0,none⟩)) (h4:f 4=.pointer (some ⟨b4,0,none⟩)) (h5:f 5=.pointer (some ⟨b5,0,none⟩)) (h14:f 14=.pointer (some ⟨b14,0,none⟩)) (h15:f 15=.pointer (some ⟨b15,0,none⟩)) (h16:f 16=.pointer (some ⟨DM,0,none⟩)) (h17:f 17=.int .i64 (kk:Int))
  (B3:Bl A b3 [sv]) (B4:Bl A b4 [Gx,Gy]) (B5:Bl A b5 [c5]) (h45:b4≠b5) (yL:Bl A b14 [.int .i64 (i:Int)]) (Mz:Bl A b15 [.int .i64 K,mv]) (ZB:Bl A DM (iL T)) (d4:b4≠DM) (d5:b5≠DM) (d14:b14≠DM) (d15:b15≠DM) (hs:aO A sv (iL st)) (hkk:kk<st.length) (hT:T.length=257) (hu0:0<=st.getD kk 0) (hu1:st.getD kk 0<=256)
  (hb0:0<=T.getD (st.getD kk 0).toNat 0) (hb1:T.getD (st.getD kk 0).toNat 0<=10000)
  (hR:st.getD kk 0≠0->K<T.getD (st.getD kk 0).toNat 0+1->∀f' A',Bl A' b4 [.int .i64 3,.int .i64 (i:Int)]->Bl A' b5 [.bool false]->af (fun q=>q=b4\/q=b5\/q=DM) A A'->Qb .r f' A')
  (hN:st.getD kk 0≠0->¬K<T.getD (st.getD kk 0).toNat 0+1->∀f' A',Bl A' DM (iL (T.set (st.getD kk 0).toNat (T.getD (st.getD kk 0).toNat 0+1)))->af (fun q=>q=DM) A A'->Qb .n f' A')
  (h0:st.getD kk 0=0->∀f',Qb .n f' A):vc P (Gt ι) Qb f A:=by
 unfold Gt kA kB kD kI kU kV kW kX kY;have c3:cell A ⟨b3,0,none⟩=some sv:=by rw[B3.cell];rfl
 obtain⟨sb,so,sc,rfl,k1⟩:=bJ (a:=(kk:Int)) hs (by omega) (by omega);have hsi:sI st (kk:Int)=st.getD kk 0:=rfl;rw[hsi,Int.toNat_natCast]at k1;obtain⟨u,hu⟩:∃u,u=st.getD kk 0:=⟨_,rfl⟩
 rw[<-hu]at k1 hu0 hu1 hb0 hb1 hR hN h0
 by_cases e1:u=0
 ·have d1:(u !=0)=false:=by rw[e1];rfl
  simp-implicitDefEqProofs only[go_sem,↓reduceIte,Za,Zb,Zc,reduceCtorEq,ae,Zf,Zg,Zh,Zi,Zd,Ze,h3,h17,c3,ak,k1,d1];exact⟨by omega,h0 e1 _⟩
 have d1:(u !=0)=true:=bne_iff_ne.2 e1;have hul:u.toNat<T.length:=by omega
 have cu:cell A ⟨DM,u.toNat,none⟩=some (.int .i64 (T.getD u.toNat 0)):=by rw[ZB.cell,dk _ _ hul]
 have w1:IntKind.i64.wrap (T.getD u.toNat 0+1)=T.getD u.toNat 0+1:=IntWalk.i64_in _ (by omega);have tu:=ZB.bu (o:=u.toNat) (by rw[aA];exact hul);have Bu:=ZB.az u.toNat (.int .i64 (T.getD u.toNat 0+1));rw[lh]at Bu;have ku:af (fun q=>q=DM) A (az A ⟨DM,u.toNat,none⟩ (.int .i64 (T.getD u.toNat 0+1))):=(af.refl _ _).az _ (.inl rfl);have ZC:0<=u/\u<((257:Nat):Int):=by omega
 simp-implicitDefEqProofs only[go_sem,↓reduceIte,Za,Zb,Zc,reduceCtorEq,ae,Zf,Zg,Zh,Zi,Zd,Ze,h3,h16,h17,c3,ak,k1,d1,cu,w1,tu,ZC];refine⟨by omega,by omega,by omega,?_⟩;generalize az A ⟨DM,u.toNat,none⟩ (.int .i64 (T.getD u.toNat 0+1))=A1 at Bu ku⊢;have ZD:=ku.bl Mz d15;have Fq:=ku.bl yL d14;have rZ:=ku.bl B4 d4;have yU:=ku.bl B5 d5;have cu1:cell A1 ⟨DM,u.toNat,none⟩=some (.int .i64 (T.getD u.toNat 0+1)):=by
  rw[Bu.cell,dk _ _ (by simpa using hul),List.getD_eq_getElem?_getD,List.getElem?_set_self hul];rfl
 have c15:cell A1 ⟨b15,0,none⟩=some (.int .i64 K):=by rw[ZD.cell];rfl
 have c14:cell A1 ⟨b14,0,none⟩=some (.int .i64 (i:Int)):=by rw[Fq.cell];rfl
 refine bo (fun _=>False) ?_
 by_cases e2:T.getD u.toNat 0+1>K
 ·have d2:decide (T.getD u.toNat 0+1>K)=true:=decide_eq_true e2;have t4:=rZ.bM (o:=0) (n:=2) (by simp);have B4w:=rZ.aB 0 [.int .i64 3,.int .i64 (i:Int)];have k4:af (fun q=>q=b4) A1 (aB A1 ⟨b4,0,none⟩ [.int .i64 3,.int .i64 (i:Int)]):=(af.refl _ _).aB _ (.inl rfl);have abD:=k4.bl yU (fun e=>h45 e.symm);have t5:=abD.bu (o:=0) (by simp);have R9:=abD.az 0 (.bool false);have k5:af (fun q=>q=b5) (aB A1 ⟨b4,0,none⟩ [.int .i64 3,.int .i64 (i:Int)]) (az (aB A1 ⟨b4,0,none⟩ [.int .i64 3,.int .i64 (i:Int)]) ⟨b5,0,none⟩ (.bool false)):=(af.refl _ _).az _ (.inl rfl);have wQ:=k5.bl B4w h45;have ha:bO #[Value.int .i64 3,Value.int .i64 (i:Int)]:=bd rfl;simp-implicitDefEqProofs only[go_sem,↓reduceIte,Za,Zb,Zc,reduceCtorEq,ae,Zf,Zg,Zh,Zi,Zd,Ze,h4,h5,h14,h15,h16,cu1,c14,c15,ZC,d2,t4,t5];exact⟨by omega,ha,hR e1 (by omega) _ _ wQ R9 ((ku.mono fun q _ e=>.inr (.inr e)).trans ((k4.mono fun q _ e=>.inl e).trans (k5.mono fun q _ e=>.inr (.inl e))))⟩
 ·have d2:decide (T.getD u.toNat 0+1>K)=false:=decide_eq_false e2;simp-implicitDefEqProofs only[go_sem,↓reduceIte,Za,Zb,Zc,reduceCtorEq,ae,Zf,Zg,Zh,Zi,Zd,Ze,h15,h16,cu1,c15,ZC,d2];exact⟨by omega,hN e1 (by omega) _ _ Bu ku⟩
end Go.Mg
namespace Go.Mg
open Go Go.RowKit
def xd (s:List Int) (m:UInt64) (k:Nat) (u:Int):Nat:=(((aW (bt m)).take k).filter fun x=>decide (s.getD x 0=u)).length
theorem Jp (s:List Int) (m:UInt64) (u:Int):xd s m 0 u=0:=rfl
variable {s st:List Int} {m:UInt64} {k i b3 b4 b5:Nat} {K:Int} {P:Program} {ι:aG} {f:Fr} {A:Hp} {sv:Value} {Qb:Ex->Fr->Hp->Prop} {α:Type}
theorem pq (hk:k<(aW (bt m)).length) (u:Int):xd s m (k+1) u=xd s m k u+if s.getD (aW (bt m))[k] 0=u then 1 else 0:=by
 unfold xd;rw[List.take_succ_eq_append_getElem hk,List.filter_append,List.length_append]
 congr 1
 simp only[List.filter_cons,List.filter_nil,decide_eq_true_eq]
 split<;>simp
theorem DN {s : List Int} {m : UInt64} {u : Int} {a : Nat} : ∀ {b : Nat}, a <= b -> xd s m a u <= xd s m b u
  | 0, h => by have : a = 0 := by omega
               subst this; exact Nat.le_refl _
  | b + 1, h => by
    by_cases e : a = b + 1
    · rw [e]; exact Nat.le_refl _
    · refine Nat.le_trans (DN (show a <= b by omega)) ?_
      by_cases hb : b < (aW (bt m)).length
      · rw [pq hb]; omega
      · unfold xd;rw [List.take_of_length_le (show (aW (bt m)).length <= b + 1 by omega), List.take_of_length_le (show (aW (bt m)).length <= b by omega)];exact Nat.le_refl _
theorem Po (s:List Int) (m:UInt64) (k:Nat) (u:Int):xd s m k u<=4096:=by
 unfold xd;refine Nat.le_trans (List.length_filter_le _ _) ?_;rw[List.length_take];have:=kc 4096 (bt m);have:=fK (bt m);omega
theorem Jq (hs:s.length<=10) (hm:m.toNat<2^s.length) (u:Int):xd s m (aW (bt m)).length u=DA s m u s.length:=by
 unfold xd DA aW;rw[List.take_length,List.filter_filter,gv];rw[oH (a:=s.length) (b:=4096) (by omega)]
 ·exact bP fun i _=>Bool.and_comm _ _
 ·intro i h1 h2;have:bt m i=false:=by
   cases hb:bt m i with
   |false=>rfl
   |true=>
    have:=(jk (n:=s.length) (by omega)).2 hm i hb;simp at this;omega
  rw[this,Bool.and_false]
theorem DO (hs:s.length<=10) (hm:m.toNat<2^s.length) (hi:i<s.length) (h0:s.getD i 0≠0) (h:K<(xd s m k (s.getD i 0):Int)):im s (K,m)=true:=by
 unfold im;refine List.any_eq_true.2 ⟨s.getD i 0,?_,?_⟩
 ·rw[List.getD_eq_getElem?_getD,List.getElem?_eq_getElem hi];exact List.getElem_mem _
 ·simp only[Bool.and_eq_true,decide_eq_true_eq];refine⟨h0,?_⟩;have h1:xd s m k (s.getD i 0)<=DA s m (s.getD i 0) s.length:=by
   rw[<-Jq hs hm]
   by_cases hk:k<=(aW (bt m)).length
   ·exact DN hk
   ·unfold xd;rw[List.take_of_length_le (show(aW (bt m)).length<=k by omega),List.take_length];exact Nat.le_refl _
  omega
theorem xH (hs:s.length<=10) (hm:m.toNat<2^s.length) (hr:∀u∈s,0<=u/\u<=256) (h:∀u:Int,0<=u->u<=256->u≠0->(xd s m (aW (bt m)).length u:Int)<=K):im s (K,m)=false:=by
 unfold im;refine List.any_eq_false.2 fun u hu=>?_;simp only[Bool.and_eq_true,decide_eq_true_eq,not_and,Int.not_lt];intro h0;have:=h u (hr u hu).1 (hr u hu).2 h0
 rwa [Jq hs hm]at this
theorem Ug (hg:fp P ι (ι.f 312)) (hmi:zY P (ι.f 316)) (hma:zZ P (ι.f 317)) {b2:Nat} {s b d a m:Value} {F:cf}
  (h2:f 2=.pointer (some ⟨b2,0,none⟩)) (h3:f 3=.pointer (some ⟨b3,0,none⟩)) (h4:f 4=.pointer (some ⟨b4,0,none⟩)) (h5:f 5=.pointer (some ⟨b5,0,none⟩))
  (B2:Bl A b2 [s,b,d,a,m]) (B3:Bl A b3 [sv]) (B4:Bl A b4 [.int .i64 0,.int .i64 0]) (B5:Bl A b5 [.bool false]) (h45:b4≠b5) (hv:bU A (.agg #[s,b,d,a,m]) F) (hok:nD F=true) (hs:aO A sv (iL st)) (hT:bg ι A) (is0:aq s) (ls0:aU s=F.st.length)
  (hN:sG F.st.length st=true->∀f' A',(∀j,j≠39->f' j=f j)->af (fun _=>False) A A'->Qb .n f' A')
  (hR:sG F.st.length st=false->∀f' A',(∀j,j≠39->f' j=f j)->Bl A' b4 [.int .i64 0,.int .i64 0]->Bl A' b5 [.bool false]->af (fun q=>q=b4\/q=b5) A A'->Qb .r f' A'):vc P (Gq ι) Qb f A:=by
 unfold Gq kF kM kT kU kV kY;have hG:=de hok;have hn:=hG.lt;have hne:0<F.st.length:=List.length_pos_iff.2 hG.ne;have ai:∀(z:Value),∀j,j≠39->bL f 39 z j=f j:=fun z j hj=>by simp only[bL,hj,if_false]
 have out:∀A1,af (fun _=>False) A A1->sG F.st.length st=false->bM A1 ⟨b4,0,none⟩ 2/\((cell (aB A1 ⟨b4,0,none⟩ [.int .i64 0,.int .i64 0]) ⟨b5,0,none⟩).isSome=true/\rO (aB A1 ⟨b4,0,none⟩ [.int .i64 0,.int .i64 0]) ⟨b5,0,none⟩=false)/\∀z,Qb .r (bL f 39 z) (az (aB A1 ⟨b4,0,none⟩ [.int .i64 0,.int .i64 0]) ⟨b5,0,none⟩ (.bool false)):=fun A1 K1 hf=>by
  have Xk:=K1.bl B4 (by simp);have B51:=K1.bl B5 (by simp);have B4w:=Xk.aB 0 [.int .i64 0,.int .i64 0];have k4:af (fun q=>q=b4) A1 (aB A1 ⟨b4,0,none⟩ [.int .i64 0,.int .i64 0]):=(af.refl _ _).aB _ (.inl rfl);have yU:=k4.bl B51 (fun e=>h45 e.symm);have R9:=yU.az 0 (.bool false);have k5:af (fun q=>q=b5) (aB A1 ⟨b4,0,none⟩ [.int .i64 0,.int .i64 0]) (az (aB A1 ⟨b4,0,none⟩ [.int .i64 0,.int .i64 0]) ⟨b5,0,none⟩ (.bool false)):=(af.refl _ _).az _ (.inl rfl);exact⟨Xk.bM (o:=0) (n:=2) (by simp),yU.bu (o:=0) (by simp),fun z=>hR hf _ _ (ai z) (k5.bl B4w h45) R9 ((K1.any.trans (k4.mono fun q _ e=>.inl e)).trans (k5.mono fun q _ e=>.inr e))⟩
 have ha:bO #[Value.int .i64 0,Value.int .i64 0]:=bd rfl;simp-implicitDefEqProofs only[go_sem,↓reduceIte,Za,Zb,Zc,reduceCtorEq,ae,h2,B2.aM 5 rfl];refine(hg F _ A hT hv).mono ?_;rintro r A1 ⟨rfl,K1⟩;have c3:cell A1 ⟨b3,0,none⟩=some sv:=by rw[(K1.bl B3 (by simp)).cell];rfl
 have c2:cell A1 ⟨b2,0,none⟩=some s:=by rw[(K1.bl B2 (by simp)).cell];rfl
 have Y0:aU sv=st.length:=by rw[hs.len,aA]
 rw[ae,hok]
 by_cases e1:st.length=F.st.length
 case neg=>
  have d1:((st.length:Int)!=(F.st.length:Int))=true:=bne_iff_ne.2 (by omega);obtain⟨t1,t2,t3⟩:=out A1 K1 (by unfold sG;simp[e1]);simp-implicitDefEqProofs only[go_sem,↓reduceIte,Za,Zb,Zc,reduceCtorEq,ae,Bool.not_true,h2,h3,h4,h5,c3,c2,hs.aq,Y0,is0,ls0,d1,t1,t2];exact⟨ha,t3 _⟩
 have d1:((st.length:Int)!=(F.st.length:Int))=false:=by rw[e1];simp
 have hns:st≠[]:=fun e=>by rw[e]at e1;simp at e1;omega
 simp-implicitDefEqProofs only[go_sem,↓reduceIte,Za,Zb,Zc,reduceCtorEq,ae,Bool.not_true,h2,h3,h4,h5,c3,c2,hs.aq,Y0,is0,ls0,d1];refine(hmi st sv A1 (hs.ai K1 (by simp)) hns (by omega)).mono ?_;rintro r A2 ⟨⟨mi,rfl,hmi⟩,rfl⟩;rw[ae]
 by_cases e2:mi<0
 ·have d2:decide (mi<0)=true:=decide_eq_true e2;obtain⟨t1,t2,t3⟩:=out A2 K1 (by
   obtain⟨u,hu,hlt⟩:=hmi.1 e2;unfold sG;rw[Bool.and_eq_false_iff];left;rw[List.all_eq_false];exact⟨u,hu,by simp;omega⟩)
  simp-implicitDefEqProofs only[go_sem,↓reduceIte,Za,Zb,Zc,reduceCtorEq,ae,Bool.not_true,h2,h3,h4,h5,c3,c2,d2,t1,t2];exact⟨ha,t3 _⟩
 have d2:decide (mi<0)=false:=decide_eq_false e2;simp-implicitDefEqProofs only[go_sem,↓reduceIte,Za,Zb,Zc,reduceCtorEq,ae,Bool.not_true,h2,h3,h4,h5,c3,c2,d2];refine(hma st sv A2 (hs.ai K1 (by simp)) hns (by omega)).mono ?_;rintro r A3 ⟨⟨mx,rfl,hmx⟩,rfl⟩;rw[ae]
 by_cases e3:mx>256
 ·have d3:decide (mx>256)=true:=decide_eq_true e3;obtain⟨t1,t2,t3⟩:=out A3 K1 (by
   obtain⟨u,hu,hlt⟩:=hmx.1 e3;unfold sG;rw[Bool.and_eq_false_iff];left;rw[List.all_eq_false];exact⟨u,hu,by simp;omega⟩)
  simp-implicitDefEqProofs only[go_sem,↓reduceIte,Za,Zb,Zc,reduceCtorEq,ae,Bool.not_true,h2,h3,h4,h5,c3,c2,d3,t1,t2];exact⟨ha,t3 _⟩
 have d3:decide (mx>256)=false:=decide_eq_false e3;simp-implicitDefEqProofs only[go_sem,↓reduceIte,Za,Zb,Zc,reduceCtorEq,ae,Bool.not_true,h2,h3,h4,h5,c3,c2,d3];refine hN ?_ _ A3 (ai _) K1;unfold sG;rw[decide_eq_true e1,Bool.and_true,List.all_eq_true];intro u hu;have h1:¬u<0:=fun h=>e2 (hmi.2 ⟨u,hu,h⟩);have h2:¬256<u:=fun h=>e3 (hmx.2 ⟨u,hu,h⟩);simp;omega
theorem DP (n k:Nat):(List.replicate n (0:Int)).getD k 0=0:=by
 rw[List.getD_eq_getElem?_getD,List.getElem?_replicate]
 split<;>rfl
theorem Uh (hba:fN P (ι.f 137) (ι.f 136)) (hb1:bS P (ι.f 136)=true) (hY:lH P (ι.f 136) (iD ι) iE 2) (htz:lz P ι (ι.f 126)) {b14 b15:Nat} {Gx Gy c5:Value} {mv:Value}
  (h3:f 3=.pointer (some ⟨b3,0,none⟩)) (h4:f 4=.pointer (some ⟨b4,0,none⟩)) (h5:f 5=.pointer (some ⟨b5,0,none⟩)) (h14:f 14=.pointer (some ⟨b14,0,none⟩)) (h15:f 15=.pointer (some ⟨b15,0,none⟩))
  (B3:Bl A b3 [sv]) (B4:Bl A b4 [Gx,Gy]) (B5:Bl A b5 [c5]) (yL:Bl A b14 [.int .i64 (i:Int)]) (Mz:Bl A b15 [.int .i64 K,mv]) (h45:b4≠b5) (h3n:b3≠b4/\b3≠b5) (h14n:b14≠b4/\b14≠b5) (h15n:b15≠b4/\b15≠b5)
  (hs:aO A sv (iL st)) (hsn:∀q,aT sv q->q≠b4/\q≠b5) (hm:aQ A (.agg #[mv]) (bt m)) (hmn:∀q,aT mv q->q≠b4/\q≠b5) (hT:bg ι A) (hTn:∀A',af (fun q=>q=b4\/q=b5\/A.size<=q) A A'->bg ι A')
  (hl:st.length<=10) (hK:1<=K) (hmt:m.toNat<2^st.length) (hr:∀u∈st,0<=u/\u<=256)
  (hR:im st (K,m)=true->∀f' A' q,(∀j,j∉[16,111,134]->f' j=f j)->f' 134=ou (f 134) q->A.size<=q->A'[q]?=some (.deferred (some []))->Bl A' b4 [.int .i64 3,.int .i64 (i:Int)]->Bl A' b5 [.bool false]->af (fun q=>q=b4\/q=b5) A A'->Qb .r f' A')
  (hN:im st (K,m)=false->∀f' A' q,(∀j,j∉[16,111,134]->f' j=f j)->f' 134=ou (f 134) q->A.size<=q->A'[q]?=some (.deferred (some []))->Bl A' b4 [Gx,Gy]->Bl A' b5 [c5]->af (fun q=>q=b4\/q=b5) A A'->Qb .n f' A'):vc P (Gu ι) Qb f A:=by
 unfold Gu kG kN kY;have s4:=B4.lt;have s5:=B5.lt;have s3:=B3.lt;have s14:=yL.lt;have s15:=Mz.lt;simp only[go_sem,Za,Zb];refine ay fun H1 DM e16 z16 ZB K1=>?_;rw[Array.toList_replicate,qj]at ZB;have abE:=K1.bl Mz (by simp);have mS:aR H1 ⟨b15,1,none⟩ 1=some #[mv]:=by
  have:=abE.aR (o:=1) (n:=1) (by simp);simpa using this
 simp only[go_sem,Za,Zb,ae,h15,aC,mS];refine(hba mv H1).mono ?_;rintro r H2 ⟨rfl,Bs,K2,z2⟩;rw[ae];have dB:=K1.trans K2;have Lr:=dB.bl B3 (by simp);have B42:=dB.bl B4 (by simp);have Zy:=dB.bl B5 (by simp);have aeD:=dB.bl yL (by simp);have aeE:=K2.bl abE (by simp);have aeF:=K2.bl ZB (by simp);have s16:=ZB.lt;obtain⟨u,W0,hu,hV⟩:=hm;simp only[Value.agg.injEq,Array.mk.injEq,List.cons.injEq,and_true]at hu;rw[<-hu]at hV;have hmo:∀q,aT mv q->q<A.size:=fun q hq=>aQ.bj (x:=.agg #[mv]) ⟨mv,W0,rfl,hV⟩ (k:=q) hq;have hV2:=hV.ai dB (by simp);have hso:∀q,aT sv q->q<A.size:=fun q hq=>hs.bj hq;have hs2:=hs.ai dB (by simp);simp only[go_sem,Za,Zb,ae];refine Ja (fun p=>p=b4\/p=b5\/p=DM) (fun k A=>∃T,Bl A DM (iL T)/\T.length=257/\(∀u:Int,0<=u->u<=256->u≠0->T.getD u.toNat 0=(xd st m k u:Int)/\(xd st m k u:Int)<=K)/\T.getD 0 0=0/\Bl A b4 [Gx,Gy]/\Bl A b5 [c5])
  (fun e A=>e=.r/\im st (K,m)=true/\Bl A b4 [.int .i64 3,.int .i64 (i:Int)]/\Bl A b5 [.bool false]) (G:=fun H=>bg ι H/\Bl H H1.size [mv]/\fj H mv W0 (bt m)) (by rfl) hb1 (oP hY htz) ?_ ?_ ?_ ?_ ?_ ?_ ?_ ?_
 ·rintro p (rfl|rfl|rfl)<;>omega
 ·rintro k X KX _;refine⟨hTn X (dB.any.trans (KX.mono fun q _ h=>?_)),KX.bl Bs (by omega),hV2.ai KX fun q hq h=>?_⟩
  ·rcases h with h|h|h
   ·exact .inl h
   ·exact .inr (.inl h)
   ·exact .inr (.inr (by omega))
  ·have:=hmn q hq;have:=hmo q hq;omega
 ·intro X KX pW;exact⟨_,KX.bl aeF (by simp),by simp,fun u _ hu h0=>⟨by rw[Jp,DP];rfl,by rw[Jp];omega⟩,DP _ _,KX.bl B42 (by simp),KX.bl Zy (by simp)⟩
 ·rintro k X X2 pW KX ⟨T,j1,j2,j3,j4,j5,j6⟩ KK;exact⟨T,KK.bl j1 (by omega),j2,j3,j4,KK.bl j5 (by omega),KK.bl j6 (by omega)⟩
 ·rintro e X X2 pW KX ⟨j1,j2,j3,j4⟩ KK;exact⟨j1,j2,KK.bl j3 (by omega),KK.bl j4 (by omega)⟩
 ·rintro k X hk KX pW ⟨T,j1,j2,j3,j4,j5,j6⟩;have hkl:k<(aW (bt m)).length:=by simpa[cG]using hk
  obtain⟨x,hx⟩:∃x,x=(aW (bt m))[k]:=⟨_,rfl⟩
  have hxv:(cG (bt m)).getD k undef=.int .i64 (x:Int):=by
   rw[List.getD_eq_getElem?_getD,List.getElem?_eq_getElem hk];simp[cG,hx]
  rw[hxv];have hxm:bt m x=true:=(lu.1 (show x∈aW (bt m) by rw[hx];exact List.getElem_mem _)).2;have hxl:x<st.length:=by
   have:=(jk (n:=st.length) (by omega)).2 hmt x hxm;simpa using this
  have hxr:=hr (st.getD x 0) (by rw[List.getD_eq_getElem?_getD,List.getElem?_eq_getElem hxl];exact List.getElem_mem _);have hval:0<=T.getD (st.getD x 0).toNat 0/\T.getD (st.getD x 0).toNat 0<=10000/\(st.getD x 0≠0->T.getD (st.getD x 0).toNat 0=(xd st m k (st.getD x 0):Int)):=by
   by_cases e0:st.getD x 0=0
   ·rw[e0];have:T.getD (0:Int).toNat 0=0:=j4;rw[this];exact⟨by omega,by omega,fun h=>absurd rfl h⟩
   ·obtain⟨v1,_⟩:=j3 _ hxr.1 hxr.2 e0;have:=Po st m k (st.getD x 0);rw[v1];exact⟨by omega,by omega,fun _=>rfl⟩
  have htm:∀v,xd st m (k+1) v=xd st m k v+if st.getD x 0=v then 1 else 0:=fun v=>by rw[pq hkl,hx]
  have X3:=KX.bl Lr (by omega);have X14:=KX.bl aeD (by omega);have X15:=KX.bl aeE (by omega);have hsX:=hs2.ai KX fun q hq h=>by
   have:=hsn q hq;have:=hso q hq;omega
  refine Uf (i:=i) (kk:=x) (K:=K) (mv:=mv) (T:=T) (by simp only[go_sem,Za,Zb,ae,h3]) (by simp only[go_sem,Za,Zb,ae,h4]) (by simp only[go_sem,Za,Zb,ae,h5]) (by simp only[go_sem,Za,Zb,ae,h14]) (by simp only[go_sem,Za,Zb,ae,h15]) (by rfl) (by rfl) X3 j5 j6 h45 X14 X15 j1 (by omega) (by omega) (by omega) (by omega) hsX hxl j2 hxr.1 hxr.2 hval.1 hval.2.1 ?_ ?_ ?_
  ·intro e0 yB f' A' w4 w5 KK;refine⟨KK.mono fun q _ h=>.inl h,rfl,DO hl hmt (k:=k+1) hxl e0 ?_,w4,w5⟩;rw[hval.2.2 e0]at yB;have:=htm (st.getD x 0);rw[if_pos rfl]at this;omega
  ·intro e0 hle f' A' w16 KK;rw[hval.2.2 e0]at hle w16;refine⟨KK.mono fun q _ h=>.inl (.inr (.inr h)),_,w16,by simpa using j2,fun u hu0 hu1 hu=>?_,?_,KK.bl j5 (by omega),KK.bl j6 (by omega)⟩
   ·obtain⟨v1,v2⟩:=j3 u hu0 hu1 hu;rw[List.getD_eq_getElem?_getD,List.getElem?_set];have ht:=htm u
    by_cases eu:st.getD x 0=u
    ·rw[if_pos eu]at ht;rw[if_pos (by rw[eu]),if_pos (by omega),eu];rw[eu]at hle;simp only[Option.getD_some];omega
    ·rw[if_neg eu]at ht;rw[if_neg (by omega),<-List.getD_eq_getElem?_getD,v1];omega
   ·rw[List.getD_eq_getElem?_getD,List.getElem?_set,if_neg (by omega),<-List.getD_eq_getElem?_getD];exact j4
  ·intro e0 f';refine⟨af.refl _ _,T,j1,j2,fun u hu0 hu1 hu=>?_,j4,j5,j6⟩;obtain⟨v1,v2⟩:=j3 u hu0 hu1 hu;have ht:=htm u;rw[if_neg (by omega)]at ht;exact⟨by omega,by omega⟩
 ·rintro X KX pW hd ⟨T,j1,j2,j3,j4,j5,j6⟩;have Pp:(cG (bt m)).length=(aW (bt m)).length:=by simp[cG]
  rw[Pp]at j3;refine hN (xH hl hmt hr fun u h0 h1 h2=>(j3 u h0 h1 h2).2) _ X H2.size (fun j hj=>?_) (by rfl) (by omega) hd j5 j6 ?_
  ·simp only[List.mem_cons,List.not_mem_nil,or_false,not_or]at hj;simp only[bL,D.fr,hj.1,hj.2.1,hj.2.2,if_false]
  ·refine dB.any.trans' KX fun q hq h=>?_;rcases h with h|h|h
   ·exact .inl h
   ·exact .inr h
   ·omega
 ·rintro e X KX pW hd ⟨rfl,j2,j3,j4⟩;refine hR j2 _ X H2.size (fun j hj=>?_) (by rfl) (by omega) hd j3 j4 ?_
  ·simp only[List.mem_cons,List.not_mem_nil,or_false,not_or]at hj;simp only[bL,D.fr,hj.1,hj.2.1,hj.2.2,if_false]
  ·refine dB.any.trans' KX fun q hq h=>?_;rcases h with h|h|h
   ·exact .inl h
   ·exact .inr h
   ·omega
def jU (F:cf) (st:List Int):Nat×Nat×Bool:=if sG F.st.length st=true then((fQ F st).1,(fQ F st).2,decide ((fQ F st).1=0))else(0,0,false)
def abF (x:Nat×Nat×Bool):Value:=.tuple #[.agg #[.int .i64 (x.1:Int),.int .i64 (x.2.1:Int)],.bool x.2.2]
def vp (P:Program) (ι:aG) (k:FuncId):Prop:=∀(F:cf) (v sv:Value) (st:List Int) (H:Hp),bg ι H->bU H v F->nD F=true->aO H sv (iL st)->an P k #[v,sv] H fun r H'=>r=abF (jU F st)/\af (fun _=>False) H H'
structure aeG (P:Program) (ι:aG):Prop where
 gd:fp P ι (ι.f 312)
 mi:zY P (ι.f 316)
 ma:zZ P (ι.f 317)
 all:fN P (ι.f 137) (ι.f 136)
 a1:bS P (ι.f 136)=true
 aY:lH P (ι.f 136) (iD ι) iE 2
 tz:lz P ι (ι.f 126)
theorem qN {p:α->Bool} {l:List α} (hi:i<l.length) (h:p l[i]=true) (hp:∀j,(hj:j<l.length)->j<i->p l[j]=false):l.findIdx? p=some i:=
 List.findIdx?_eq_some_iff_getElem.2 ⟨hi,h,fun j hj=>by rw[hp j (by omega) hj];simp⟩
theorem mF {p:α->Bool} {l:List α} (hp:∀j,(hj:j<l.length)->p l[j]=false):l.findIdx? p=none:=
 List.findIdx?_eq_none_iff.2 fun x hx=>by
  obtain⟨j,hj,rfl⟩:=List.getElem_of_mem hx;exact hp j hj
theorem gA {p:α->Bool} {l:List α} (hi:i<l.length) (h:p l[i]=false) (hp:∀j,(hj:j<l.length)->j<i->p l[j]=false):∀j,(hj:j<l.length)->j<i+1->p l[j]=false:=fun j hj hlt=>by
 by_cases e:j=i
 ·subst e;exact h
 ·exact hp j hj (by omega)
theorem Ui {k:FuncId} (hk:gY P k (Gv ι) Gw 2 134) (c:aeG P ι):vp P ι k:=by
 intro F v sv st H hT hv hok hst;have pV:=hv;obtain⟨s,b,d,a,m,ms,rfl,h1,h2,h3,h4,h5,h6⟩:=hv;have hG:=de hok;have qM:=hG.lim;unfold iQ at qM;refine qI fun Q hQ=>?_;refine gx hk (args:=[_,_]) (by simp) ?_;unfold Gv Gw kA kB kC ke kG kH kK kN kO kR kU kV kY kZ;simp only[go_sem,Za,Zb];refine ay fun H1 b2 e1 z1 B1 K1=>?_;have bQ:Bl H1 b2 [s,b,d,a,m]:=B1;simp only[go_sem,Za,Zb];refine ay fun H2 b3 e2 z2 B2 K2=>?_;have km:Bl H2 b3 [sv]:=by
  have:=hst.aq
  cases sv<;>first|exact B2|exact absurd this (by simp[aq])
 simp only[go_sem,Za,Zb];refine ay fun H3 b4 e3 z3 B3 K3=>?_;have xc:Bl H3 b4 [.int .i64 0,.int .i64 0]:=B3;simp only[go_sem,Za,Zb];refine ay fun H4 b5 e4 z4 B4 K4=>?_;have rZ:Bl H4 b5 [.bool false]:=B4;have dB:=K1.trans K2;have ED:=(dB.trans K3).trans K4;have s1:=K1.size;have s2:=K2.size;have s3:=K3.size;have s4:=K4.size;have yL:=(K2.trans (K3.trans K4)).bl bQ (by simp);have Kq:=(K3.trans K4).bl km (by simp);have My:=K4.bl xc (by simp);have hT4:=hT.ai ED;have v4:=pV.aj ED;have st4:=hst.ai ED (by simp);have h45:b4≠b5:=by omega
 have fin:∀(x y:Nat) (q:Bool) f' A',f' 4=.pointer (some ⟨b4,0,none⟩)->f' 5=.pointer (some ⟨b5,0,none⟩)->(kt (f' 134)).Nodup->(∀p∈kt (f' 134),H4.size<=p/\A'[p]?=some (.deferred (some [])))->Bl A' b4 [.int .i64 (x:Int),.int .i64 (y:Int)]->Bl A' b5 [.bool q]->af (fun p=>p=b4\/p=b5) H4 A'->jU F st=(x,y,q)->mX 134 [.cn 4 2,.c1 5] Q .r f' A':=fun x y q f' A' f4 f5 hnd hmk j4 j5 K hr=>by
  refine⟨hnd,fun p hp=>(hmk p hp).2,fun A2 hs2 hk2=>?_⟩;have M:af (fun p=>p∈kt (f' 134)) A' A2:=⟨by omega,fun p _ h=>hk2 p h⟩
  have abG:=My.lt;have aeH:=rZ.lt;have i4:=M.bl j4 (fun h=>by have:=(hmk _ h).1;omega);have i5:=M.bl j5 (fun h=>by have:=(hmk _ h).1;omega);have c5:cell A2 ⟨b5,0,none⟩=some (.bool q):=by rw[i5.cell];rfl
  rw[hQ,hr];have n4:aM A2 (.pointer (some ⟨b4,0,none⟩)) 2=some #[.int .i64 (x:Int),.int .i64 (y:Int)]:=i4.aM 2 rfl;simp only[go_sem,Za,Zb,ae,dx,dy,f4,f5,n4,c5];exact⟨rfl,(ED.trans' K fun p hp h=>by omega).trans' M fun p hp h=>by have:=(hmk p h).1;omega⟩
 have Gz:∀(x y:Nat) (q:Bool) f' A',f' 4=.pointer (some ⟨b4,0,none⟩)->f' 5=.pointer (some ⟨b5,0,none⟩)->f' 134=undef->Bl A' b4 [.int .i64 (x:Int),.int .i64 (y:Int)]->Bl A' b5 [.bool q]->af (fun p=>p=b4\/p=b5) H4 A'->jU F st=(x,y,q)->mX 134 [.cn 4 2,.c1 5] Q .r f' A':=fun x y q f' A' f4 f5 f6 j4 j5 K hr=>
  fin x y q f' A' f4 f5 (by rw[f6,dG];exact List.nodup_nil) (by rw[f6,dG];intro p hp;cases hp) j4 j5 K hr
 have TN:∀j,(hj:j<F.di.length)->kg (F.st.length:Int) F.di[j]:=fun j hj=>(hG.di _ (List.getElem_mem hj)).1;have R8:∀j,(hj:j<F.sa.length)->kg (F.st.length:Int) F.sa[j]:=fun j hj=>(hG.sa _ (List.getElem_mem hj)).1;have hmo:∀j,(hj:j<F.mo.length)->1<=F.mo[j].1/\F.mo[j].2.toNat<2^F.st.length:=fun j hj=>by
  have:=hG.mo _ (List.getElem_mem hj);unfold pd at this
  split at this
  ·omega
  ·next h=>omega
 simp only[go_sem,Za,Zb,ae];refine Ug c.gd c.mi c.ma (by rfl) (by rfl) (by rfl) (by rfl) yL Kq My rZ h45 v4 hok st4 hT4 h1.aq h1.len (fun mL f' A xF KA=>?_) (fun mL f' A xF j4 j5 KA=>?_)
 case refine_2=>
  refine Gz 0 0 false f' A (by rw[xF 4 (by decide)];simp only[go_sem,Za,Zb,ae]) (by rw[xF 5 (by decide)];simp only[go_sem,Za,Zb,ae]) (by rw[xF 134 (by decide)];simp only[go_sem,Za,Zb,ae]) j4 j5 KA ?_;unfold jU;rw[mL];rfl
 have hl:st.length=F.st.length:=by
  unfold sG at mL;simp only[Bool.and_eq_true,decide_eq_true_eq]at mL;exact mL.2
 have hr:∀u∈st,0<=u/\u<=256:=fun u hu=>by
  unfold sG at mL;simp only[Bool.and_eq_true,decide_eq_true_eq,List.all_eq_true]at mL;exact mL.1 u hu
 have hR1:∀x y,fQ F st=(x,y)->jU F st=(x,y,decide (x=0)):=fun x y h=>by
  unfold jU;rw[if_pos mL,h]
 have g2:f' 2=.pointer (some ⟨b2,0,none⟩):=by rw[xF 2 (by decide)];simp only[go_sem,Za,Zb,ae]
 have g3:f' 3=.pointer (some ⟨b3,0,none⟩):=by rw[xF 3 (by decide)];simp only[go_sem,Za,Zb,ae]
 have g4:f' 4=.pointer (some ⟨b4,0,none⟩):=by rw[xF 4 (by decide)];simp only[go_sem,Za,Zb,ae]
 have g5:f' 5=.pointer (some ⟨b5,0,none⟩):=by rw[xF 5 (by decide)];simp only[go_sem,Za,Zb,ae]
 have Uj:f' 134=undef:=by rw[xF 134 (by decide)];simp only[go_sem,Za,Zb,ae]
 have Ov:=KA.bl yL (by simp);have Xf:=KA.bl Kq (by simp);have B4A:=KA.bl My (by simp);have B5A:=KA.bl rZ (by simp);have c2:cell A ⟨b2,2,none⟩=some d:=by rw[Ov.cell];rfl
 have KHA:=ED.trans KA;have hso:∀q,aT sv q->q<H.size:=fun q hq=>hst.bj hq;have abG:=My.lt;have aeH:=rZ.lt;have sA:=KA.size;have bj:∀X,af (fun p=>p=b4\/p=b5) A X->af (fun _=>False) H X:=fun X K=>KHA.trans' K fun p hp h=>by omega
 simp only[go_sem,Za,Zb,ae,g2,c2,h3.aq,h3.len];refine aD F.di.length [45,7,6,8,9,65,44] rfl rfl (by omega) (by rfl) (by rfl) (fun i g X=>(∀j,(hj:j<F.di.length)->j<i->fP st F.di[j]=false)/\Bl X b4 [.int .i64 0,.int .i64 0]/\Bl X b5 [.bool false]/\af (fun p=>p=b4\/p=b5) A X) ⟨fun j _ h=>by omega,B4A,B5A,af.refl _ _⟩ ?_ ?_
 ·rintro i g X hi gi gn ⟨hp,j4,j5,KX⟩;simp only[go_sem,Za,Zb,ae]at gi gn;have kh:=bj X KX;have sX:=KX.size;obtain⟨pb,po,pc,gz,nz,hld⟩:=(h3.aj kh).elem (enc:=pE) (k:=2) (fun _=>rfl) hi;obtain⟨y,hy⟩:∃y,y=F.di[i]:=⟨_,rfl⟩
  rw[<-hy]at hld;have cU:aR X ⟨pb,po+i*2,none⟩ 2=some #[.int .i64 y.1,.int .i64 y.2]:=hld;simp only[go_sem,Za,Zb,gi,gz,ak,aC,cU];refine⟨by omega,?_⟩;refine ef [.int .i64 y.1,.int .i64 y.2] (.int .i64 (i:Int)) rfl (by rfl) (by rfl) rfl rfl rfl fun A1 b7 e7 z7 B7 K7=>?_;have s7:=K7.size;simp only[go_sem,Za,Zb,ae];refine Ud (i:=i) (x:=y) (by simp only[go_sem,Za,Zb,ae,g3]) (by simp only[go_sem,Za,Zb,ae,g4]) (by simp only[go_sem,Za,Zb,ae,g5]) (by rfl) (by rfl) (K7.bl (KX.bl Xf (by omega)) (by simp)) (K7.bl j4 (by simp)) (K7.bl j5 (by simp)) h45 B7 ((hst.ai kh (by simp)).ai K7 (by simp)) hl (by rw[hy];exact TN i hi) (fun hh g' A2 rP w4 w5 K2'=>?_) (fun hh g' rP=>?_)
  ·refine Gz 1 i false g' A2 (by rw[rP 4 (by decide)];simp only[go_sem,Za,Zb,ae,g4]) (by rw[rP 5 (by decide)];simp only[go_sem,Za,Zb,ae,g5]) (by rw[rP 134 (by decide)];simp only[go_sem,Za,Zb,ae,Uj]) w4 w5 (((KA.any.trans KX).trans K7.any).trans K2') (hR1 1 i ?_);unfold fQ;rw[qN hi (by rw[<-hy];exact hh) hp]
  ·simp only[go_sem,Za,Zb,ae];exact⟨gA hi (by rw[<-hy];exact hh) hp,K7.bl j4 (by simp),K7.bl j5 (by simp),KX.trans K7.any⟩
 rintro g X gi ⟨Sa,j4,j5,KX⟩;have fD:F.di.findIdx? (fP st)=none:=mF fun j hj=>Sa j hj hj;have c3:cell X ⟨b2,3,none⟩=some a:=by rw[(KX.bl Ov (by omega)).cell];rfl
 simp only[go_sem,Za,Zb,ae,g2,c3,h4.aq,h4.len];refine aD F.sa.length [73,11,10,12,13,97,72] rfl rfl (by omega) (by rfl) (by rfl) (fun i g X=>(∀j,(hj:j<F.sa.length)->j<i->eO st F.sa[j]=false)/\Bl X b4 [.int .i64 0,.int .i64 0]/\Bl X b5 [.bool false]/\af (fun p=>p=b4\/p=b5) A X) ⟨fun j _ h=>by omega,j4,j5,KX⟩ ?_ ?_
 ·clear j4 j5 KX Sa gi c3;rintro i g1 X hi gi gn ⟨hp,j4,j5,KX⟩;simp only[go_sem,Za,Zb,ae]at gi gn;have kh:=bj X KX;have sX:=KX.size;obtain⟨pb,po,pc,gz,nz,hld⟩:=(h4.aj kh).elem (enc:=pE) (k:=2) (fun _=>rfl) hi;obtain⟨y,hy⟩:∃y,y=F.sa[i]:=⟨_,rfl⟩
  rw[<-hy]at hld;have cU:aR X ⟨pb,po+i*2,none⟩ 2=some #[.int .i64 y.1,.int .i64 y.2]:=hld;simp only[go_sem,Za,Zb,gi,gz,ak,aC,cU];refine⟨by omega,?_⟩;refine ef [.int .i64 y.1,.int .i64 y.2] (.int .i64 (i:Int)) rfl (by rfl) (by rfl) rfl rfl rfl fun A1 b7 e7 z7 B7 K7=>?_;have s7:=K7.size;simp only[go_sem,Za,Zb,ae];refine Ue (i:=i) (x:=y) (by simp only[go_sem,Za,Zb,ae,g3]) (by simp only[go_sem,Za,Zb,ae,g4]) (by simp only[go_sem,Za,Zb,ae,g5]) (by rfl) (by rfl) (K7.bl (KX.bl Xf (by omega)) (by simp)) (K7.bl j4 (by simp)) (K7.bl j5 (by simp)) h45 B7 ((hst.ai kh (by simp)).ai K7 (by simp)) hl (by rw[hy];exact R8 i hi) (fun hh g' A2 rP w4 w5 K2'=>?_) (fun hh g' rP=>?_)
  ·refine Gz 2 i false g' A2 (by rw[rP 4 (by decide)];simp only[go_sem,Za,Zb,ae,g4]) (by rw[rP 5 (by decide)];simp only[go_sem,Za,Zb,ae,g5]) (by rw[rP 134 (by decide)];simp only[go_sem,Za,Zb,ae,Uj]) w4 w5 (((KA.any.trans KX).trans K7.any).trans K2') (hR1 2 i ?_);unfold fQ;rw[fD,qN hi (by rw[<-hy];exact hh) hp]
  ·simp only[go_sem,Za,Zb,ae];exact⟨gA hi (by rw[<-hy];exact hh) hp,K7.bl j4 (by simp),K7.bl j5 (by simp),KX.trans K7.any⟩
 clear j4 j5 KX c3;rintro g1 X gi1 ⟨Ls,j4,j5,KX⟩;have fS:F.sa.findIdx? (eO st)=none:=mF fun j hj=>Ls j hj hj;have c4:cell X ⟨b2,4,none⟩=some m:=by rw[(KX.bl Ov (by omega)).cell];rfl
 have nQ:ms.length=F.mo.length:=h6.len;simp only[go_sem,Za,Zb,ae,g2,c4,h5.aq,h5.len,nQ];refine aD F.mo.length [105,14,15,16,111,134,112,17,18,118,129,104] rfl rfl (by omega) (by rfl) (by rfl) (fun i g X=>(∀j,(hj:j<F.mo.length)->j<i->im st F.mo[j]=false)/\(kt (g 134)).Nodup/\(∀p∈kt (g 134),H4.size<=p/\X[p]?=some (.deferred (some [])))/\Bl X b4 [.int .i64 0,.int .i64 0]/\Bl X b5 [.bool false]/\af (fun p=>p=b4\/p=b5) A X) ⟨fun j _ h=>by omega,?_,?_,j4,j5,KX⟩ ?_ ?_
 ·simp only[go_sem,Za,Zb,ae,Uj,dG];exact List.nodup_nil
 ·simp[go_sem,Za,Zb,ae,Uj,dG]
 ·clear j4 j5 KX c4 Ls gi1;rintro i WS X hi gi gn ⟨hp,hnd,hmk,j4,j5,KX⟩;simp only[go_sem,Za,Zb,ae]at gi gn hnd hmk;have kh:=bj X KX;have sX:=KX.size;have hmi:i<ms.length:=by omega
  obtain⟨pb,po,pc,gz,nz,hld⟩:=(h5.aj kh).elem eP hmi;obtain⟨x,hx⟩:∃x,x=ms[i]:=⟨_,rfl⟩
  obtain⟨y,hy⟩:∃y,y=F.mo[i]:=⟨_,rfl⟩
  obtain⟨x1,xm⟩:=h6.at_ i hmi hi;rw[<-hx,<-hy]at x1 xm;rw[<-hx]at hld;rw[nQ]at gz;have cU:aR X ⟨pb,po+i*2,none⟩ 2=some #[.int .i64 x.1,hZ x]:=hld;simp only[go_sem,Za,Zb,gi,gz,ak,aC,cU];refine⟨by omega,?_⟩;refine ay fun A1 b14 e14 z14 Fq EC=>?_;have s14:=EC.size;simp only[go_sem,Za,Zb];refine ay fun A2 b15 e15 z15 ZD KJ=>?_;have s15:=KJ.size;have Ba:Bl A2 b15 [.int .i64 0,.slice none 0 0]:=ZD;have t14:=(KJ.bl Fq (by simp)).bu (o:=0) (by simp);have C14:=(KJ.bl Fq (by simp)).az 0 (.int .i64 (i:Int));have L1:af (fun q=>q=b14) A2 (az A2 ⟨b14,0,none⟩ (.int .i64 (i:Int))):=(af.refl _ _).az _ (.inl rfl);have C15:=L1.bl Ba (by omega);have t15:=C15.bM (o:=0) (n:=2) (by simp);have D15:=C15.aB 0 [.int .i64 x.1,hZ x];have L2:af (fun q=>q=b15) (az A2 ⟨b14,0,none⟩ (.int .i64 (i:Int))) (aB (az A2 ⟨b14,0,none⟩ (.int .i64 (i:Int))) ⟨b15,0,none⟩ [.int .i64 x.1,hZ x]):=(af.refl _ _).aB _ (.inl rfl);have D14:=L2.bl C14 (by omega);have ha:bO #[.int .i64 x.1,hZ x]:=bd rfl;simp only[go_sem,Za,Zb,ae,t14,t15];refine⟨ha,?_⟩;generalize aB (az A2 ⟨b14,0,none⟩ (.int .i64 (i:Int))) ⟨b15,0,none⟩ [.int .i64 x.1,hZ x]=X3 at L2 D14 D15⊢;have Pq:af (fun _=>False) X X3:=(((EC.trans KJ).trans' L1 fun q hq h=>by omega)).trans' L2 fun q hq h=>by omega
  have s3':=Pq.size;have EE:=kh.trans Pq;have hmx:∀q,aT (hZ x) q->q<H.size:=fun q hq=>aQ.bj xm (k:=q) hq;obtain⟨m1,m2⟩:=hmo i hi;rw[<-hy]at m1 m2;have hx3:=L2.size;have mk3:∀A',af (fun q=>q=b4\/q=b5) X3 A'->∀p∈kt (WS 134),H4.size<=p/\A'[p]?=some (.deferred (some [])):=fun A' K p hp=>by
   obtain⟨p1,p2⟩:=hmk p hp;have hlt:=(Array.getElem?_eq_some_iff.1 p2).1;refine⟨p1,?_⟩;rw[K.at_ p (by omega) (by omega),Pq.at_ p hlt (by simp)];exact p2
  refine Uh c.all c.a1 c.aY c.tz (b14:=b14) (b15:=b15) (i:=i) (K:=y.1) (m:=y.2) (mv:=hZ x) (st:=st) (by simp only[go_sem,Za,Zb,ae,g3]) (by simp only[go_sem,Za,Zb,ae,g4]) (by simp only[go_sem,Za,Zb,ae,g5]) (by rfl) (by rfl) (Pq.bl (KX.bl Xf (by omega)) (by simp)) (Pq.bl j4 (by simp)) (Pq.bl j5 (by simp)) D14 (by rw[<-x1];exact D15) h45 (by omega) (by omega) (by omega) (hst.ai EE (by simp)) (fun q hq=>by have:=hso q hq;omega) (xm.aj EE) (fun q hq=>by have:=hmx q hq;omega) (hT.ai EE) (fun A' K=>hT.ai (EE.trans' K fun q hq h=>by omega)) (by omega) m1 (by rw[hl];exact m2) hr (fun hh g' A' q rP DQ hq ZE w4 w5 KK=>?_) (fun hh g' A' q rP DQ hq ZE w4 w5 KK=>?_)
  ·simp only[go_sem,Za,Zb,ae]at DQ;have wR:kt (g' 134)=q::kt (WS 134):=by rw[DQ,jd]
   refine fin 3 i false g' A' (by rw[rP 4 (by decide)];simp only[go_sem,Za,Zb,ae,g4]) (by rw[rP 5 (by decide)];simp only[go_sem,Za,Zb,ae,g5]) ?_ ?_ w4 w5 (((KA.any.trans KX).trans Pq.any).trans KK) (hR1 3 i ?_)
   ·rw[wR];refine List.nodup_cons.2 ⟨fun h=>?_,hnd⟩;have:=(Array.getElem?_eq_some_iff.1 (hmk q h).2).1;omega
   ·rw[wR];intro p hp;rcases List.mem_cons.1 hp with rfl|hp
    ·exact⟨by omega,ZE⟩
    ·exact mk3 A' KK p hp
   ·unfold fQ;rw[fD,fS];simp only;rw[qN hi (by rw[<-hy];exact hh) hp]
  ·simp only[go_sem,Za,Zb,ae]at DQ;have wR:kt (g' 134)=q::kt (WS 134):=by rw[DQ,jd]
   simp only[go_sem,Za,Zb,ae];refine⟨gA hi (by rw[<-hy];exact hh) hp,?_,?_,w4,w5,(KX.trans Pq.any).trans KK⟩
   ·rw[wR];refine List.nodup_cons.2 ⟨fun h=>?_,hnd⟩;have:=(Array.getElem?_eq_some_iff.1 (hmk q h).2).1;omega
   ·rw[wR];intro p hp;rcases List.mem_cons.1 hp with rfl|hp
    ·exact⟨by omega,ZE⟩
    ·exact mk3 A' KK p hp
 ·rintro WS Y gi2 ⟨ZF,hnd,hmk,w4,w5,KY⟩;have fM:F.mo.findIdx? (im st)=none:=mF fun j hj=>ZF j hj hj;simp only[go_sem,Za,Zb,ae]at hnd hmk;have t4:=w4.bM (o:=0) (n:=2) (by simp);have B4w:=w4.aB 0 [.int .i64 0,.int .i64 0];have k4:af (fun q=>q=b4) Y (aB Y ⟨b4,0,none⟩ [.int .i64 0,.int .i64 0]):=(af.refl _ _).aB _ (.inl rfl);have yU:=k4.bl w5 (fun e=>h45 e.symm);have t5:=yU.bu (o:=0) (by simp);have R9:=yU.az 0 (.bool true);have k5:af (fun q=>q=b5) (aB Y ⟨b4,0,none⟩ [.int .i64 0,.int .i64 0]) (az (aB Y ⟨b4,0,none⟩ [.int .i64 0,.int .i64 0]) ⟨b5,0,none⟩ (.bool true)):=(af.refl _ _).az _ (.inl rfl);have wQ:=k5.bl B4w h45;have ha:bO #[Value.int .i64 0,Value.int .i64 0]:=bd rfl;have kk:=(k4.mono fun q _ e=>Or.inl (b:=q=b5) e).trans (k5.mono fun q _ e=>Or.inr (a:=q=b4) e);rw[Na,if_pos rfl];simp only[jF,Yl,ym,go_sem,Za,Zb,ae,g4,g5,t4,t5];refine⟨ha,?_⟩;generalize az (aB Y ⟨b4,0,none⟩ [.int .i64 0,.int .i64 0]) ⟨b5,0,none⟩ (.bool true)=Z at kk wQ R9⊢;have:=fin 0 0 true (bL (bL (bL (fun _=>undef) 4 (.pointer (some ⟨b4,0,none⟩))) 5 (.pointer (some ⟨b5,0,none⟩))) 134 (WS 134)) Z (by rfl) (by rfl) (by simp only[go_sem,Za,Zb,ae];exact hnd) (by
   simp only[go_sem,Za,Zb,ae];intro p hp;obtain⟨p1,p2⟩:=hmk p hp;have hlt:=(Array.getElem?_eq_some_iff.1 p2).1;exact⟨p1,by rw[kk.at_ p hlt (by omega)];exact p2⟩) wQ R9 ((KA.any.trans KY).trans kk) (hR1 0 0 (by unfold fQ;rw[fD,fS,fM]))
  simpa only[mX,go_sem,Za,Zb,ae]using this
end Go.Mg
namespace Go.Mg
open Go Go.RowKit
def Pr (ι:aG):S:=
 (kY [kA 25 1,kP 26 2 1 7 0,kD 27 26,kI 28 1 25 27,kD 29 28,kU 30 (.cm .neq .i64 (.t 29) (.c (.int .i64 0))),kF 31 30,kS 32 31 true 1,kT 33 31 true (.ia 2 1 (.v 7) (.c (.int .i64 0))),kT 34 31 true (.ld (.t 33)),kT 35 31 true (.is 1 (.t 32) (.t 34)),kT 36 31 true (.ld (.t 35)),kS 37 31 true 1,kT 38 31 true (.ia 2 1 (.v 7) (.c (.int .i64 1))),kT 39 31 true (.ld (.t 38)),kT 40 31 true (.is 1 (.t 37) (.t 39)),kT 41 31 true (.ld (.t 40)),kT 42 31 true (.cm .eql .i64 (.t 36) (.t 41)),kV 43 (.pick (.t 31) (.t 42) (.c (.bool false)))] (.ite (.v 43) (kY [kA 44 6,kC 4 (.int .i64 1),kB 5 44] .ret) .skip))
def Ps (ι:aG):S:=
 (kY [kA 54 1,kP 55 2 1 9 0,kD 56 55,kI 57 1 54 56,kD 58 57,kU 59 (.cm .neq .i64 (.t 58) (.c (.int .i64 0))),kF 60 59,kS 61 60 true 1,kT 62 60 true (.ia 2 1 (.v 9) (.c (.int .i64 1))),kT 63 60 true (.ld (.t 62)),kT 64 60 true (.is 1 (.t 61) (.t 63)),kT 65 60 true (.ld (.t 64)),kT 66 60 true (.cm .neq .i64 (.t 65) (.c (.int .i64 0))),kJ 67 60 66,kF 68 67,kS 69 68 true 1,kT 70 68 true (.ia 2 1 (.v 9) (.c (.int .i64 0))),kT 71 68 true (.ld (.t 70)),kT 72 68 true (.is 1 (.t 69) (.t 71)),kT 73 68 true (.ld (.t 72)),kS 74 68 true 1,kT 75 68 true (.ia 2 1 (.v 9) (.c (.int .i64 1))),kT 76 68 true (.ld (.t 75)),kT 77 68 true (.is 1 (.t 74) (.t 76)),kT 78 68 true (.ld (.t 77)),kT 79 68 true (.cm .neq .i64 (.t 73) (.t 78)),kV 80 (.pick (.t 68) (.t 79) (.c (.bool false)))] (.ite (.v 80) (kY [kA 81 8,kC 4 (.int .i64 2),kB 5 81] .ret) .skip))
def Pt (ι:aG):S:=
 (kY [kA 104 13,kU 105 (.cm .neq .i64 (.t 104) (.c (.int .i64 0))),kF 106 105,kS 107 106 true 16,kS 108 106 true 13,kT 109 106 true (.cm .eql .i64 (.t 107) (.t 108)),kJ 110 106 109,kF 111 110,kT 112 111 true (.fa 1 (.v 11)),kT 113 111 true (.ld (.t 112)),kS 114 111 true 15,kT 115 111 true (.sh .shr .u64 (.t 113) (.t 114)),kT 116 111 true (.dv .rem .u64 (.t 115) (.c (.int .u64 2))),kT 117 111 true (.cm .eql .u64 (.t 116) (.c (.int .u64 1))),kV 118 (.pick (.t 111) (.t 117) (.c (.bool false)))] (.ite (.v 118) (.reg [kA 119 14,kU 120 (.ar .add .i64 (.t 119) (.c (.int .i64 1))),kB 14 120]) .skip))
def Pu (ι:aG):S:=
 (kY [kC 14 (.int .i64 0)] (.seq (kY [kV 97 (.mv (.v 1)),kO 98 97,kC 99 (.int .i64 0)] (.blk 8 (.loop (kY [kH 100 99 98] (.seq (.ite (.v 100) .skip (.exit 8)) (.seq (.blk 9 (kY [kA 101 99,kK 102 1 97 99,kD 103 102,kB 15 101,kB 16 103] (Pt ι))) (.reg [ke 121 99,kB 99 121]))))))) (kY [kA 122 14,kG 123 0 11,kD 124 123,kV 125 (.cm .gtr .i64 (.t 122) (.t 124))] (.ite (.v 125) (kY [kA 126 10,kC 4 (.int .i64 3),kB 5 126] .ret) .skip))))
def GA (ι:aG):S:=
 kY [kR 2 (ι.t 289) 0,kC 4 (.int .i64 0),kC 5 (.int .i64 0)] (.seq (kY [kG 17 2 2,kV 18 (.ld (.t 17)),kO 19 18,kC 20 (.int .i64 0)] (.blk 0 (.loop (kY [kH 21 20 19] (.seq (.ite (.v 21) .skip (.exit 0)) (.seq (.blk 1 (kY [kA 22 20,kK 23 2 18 20,kN 24 2 23,.e (.v 7) (.new (ι.t 194) #[.int .i64 0,.int .i64 0]),kB 6 22,.e .no (.stn 2 (.v 7) (.t 24))] (Pr ι))) (.reg [ke 45 20,kB 20 45]))))))) (.seq (kY [kG 46 3 2,kV 47 (.ld (.t 46)),kO 48 47,kC 49 (.int .i64 0)] (.blk 2 (.loop (kY [kH 50 49 48] (.seq (.ite (.v 50) .skip (.exit 2)) (.seq (.blk 3 (kY [kA 51 49,kK 52 2 47 49,kN 53 2 52,.e (.v 9) (.new (ι.t 194) #[.int .i64 0,.int .i64 0]),kB 8 51,.e .no (.stn 2 (.v 9) (.t 53))] (Ps ι))) (.reg [ke 82 49,kB 49 82]))))))) (.seq (kY [kG 83 4 2,kV 84 (.ld (.t 83)),kO 85 84,kC 86 (.int .i64 0)] (.blk 4 (.loop (kY [kH 87 86 85] (.seq (.ite (.v 87) .skip (.exit 4)) (.seq (.blk 5 (kY [kA 88 86,kK 89 2 84 86,kN 90 2 89,.e (.v 11) (.new (ι.t 291) #[.int .i64 0,.int .u64 0]),kB 10 88,.e .no (.stn 2 (.v 11) (.t 90))] (kY [kV 91 (.mv (.v 1)),kO 92 91,kC 93 (.int .i64 0)] (.blk 6 (.loop (kY [kH 94 93 92] (.seq (.ite (.v 94) .skip (.exit 6)) (.seq (.blk 7 (kY [kK 95 1 91 93,kD 96 95,kB 13 96] (Pu ι))) (.reg [ke 127 93,kB 93 127]))))))))) (.reg [ke 128 86,kB 86 128]))))))) (kY [kC 4 (.int .i64 0),kC 5 (.int .i64 0)] .ret))))
def GB:List RV:=[.t 4,.t 5]
variable {P:Program} {ι:aG} {f:Fr} {A:Hp} {bp i b7 n:Nat} {u K:Int} {m:UInt64} {Qb:Ex->Fr->Hp->Prop} {st:List Int} {sv:Value} {x:fV}
theorem ZG {cc:Nat} {w:Int} (h11:f 11=.pointer (some ⟨bp,0,none⟩)) (h13:f 13=.int .i64 u) (h14:f 14=.int .i64 (cc:Int)) (h15:f 15=.int .i64 (i:Int)) (h16:f 16=.int .i64 w)
  (B:Bl A bp [.int .i64 K,.int .u64 m.toNat]) (hi:i<64) (hc:cc<=1000)
  (hK:∀f',(∀j,j∉[14,118]->f' j=f j)->f' 14=.int .i64 ((cc+if u≠0/\w=u/\bt m i=true then 1 else 0:Nat):Int)->Qb .n f' A):vc P (Pt ι) Qb f A:=by
 unfold Pt kA kB kF kJ kS kT kU kV kY;have c1:cell A ⟨bp,1,none⟩=some (.int .u64 m.toNat):=by rw[B.cell];rfl
 have keep1:∀(z:Value),∀j,j∉[14,118]->bL f 118 z j=f j:=fun z j hj=>by
  simp only[List.mem_cons,List.not_mem_nil,or_false,not_or]at hj;simp only[bL,hj.2,if_false]
 have Nw:∀(z y:Value),∀j,j∉[14,118]->bL (bL f 118 z) 14 y j=f j:=fun z y j hj=>by
  simp only[List.mem_cons,List.not_mem_nil,or_false,not_or]at hj;simp only[bL,hj.1,hj.2,if_false]
 by_cases e1:u=0
 ·have d1:(u !=0)=false:=by rw[e1];rfl
  simp only[go_sem,Za,Zb,ae,h11,h13,h14,h15,h16,d1];exact hK _ (keep1 _) (by simp only[go_sem,Za,Zb,ae,h14];simp[e1])
 have d1:(u !=0)=true:=bne_iff_ne.2 e1
 by_cases e2:w=u
 ·have d2:(w==u)=true:=by simp[e2]
  have hb:=zG m i
  cases hbt:bt m i with
  |true=>
   rw[hbt]at hb;simp only[go_sem,Za,Zb,ae,h11,h13,h14,h15,h16,d1,d2,c1,hb,ak];have w1:IntKind.i64.wrap ((cc:Int)+1)=((cc+1:Nat):Int):=by rw[IntWalk.i64_in _ (by omega)];omega
   rw[w1];exact⟨by omega,by decide,hK _ (Nw _ _) (by simp only[go_sem,Za,Zb,ae];simp[e1,e2,hbt])⟩
  |false=>
   rw[hbt]at hb;simp only[go_sem,Za,Zb,ae,h11,h13,h14,h15,h16,d1,d2,c1,hb,ak];exact⟨by omega,by decide,hK _ (keep1 _) (by simp only[go_sem,Za,Zb,ae,h14];simp[hbt])⟩
 ·have d2:(w==u)=false:=by simp[e2]
  simp only[go_sem,Za,Zb,ae,h11,h13,h14,h15,h16,d1,d2];exact hK _ (keep1 _) (by simp only[go_sem,Za,Zb,ae,h14];simp[e2])
def Pv (st:List Int) (K:Int) (m:UInt64) (u:Int):Prop:=u≠0/\K<(DA st m u st.length:Int)
theorem DR:im st (K,m)=true↔∃j,∃h:j<st.length,Pv st K m st[j]:=by
 unfold im Pv;rw[List.any_eq_true]
 constructor
 ·rintro⟨u,hu,h⟩;obtain⟨j,hj,rfl⟩:=List.getElem_of_mem hu;simp only[Bool.and_eq_true,decide_eq_true_eq]at h;exact⟨j,hj,h⟩
 ·rintro⟨j,hj,h⟩;exact⟨st[j],List.getElem_mem hj,by simpa using h⟩
theorem Pw (st:List Int) (m:UInt64) (u:Int) (i:Nat):DA st m u (i+1)=DA st m u i+if bt m i=true/\st.getD i 0=u then 1 else 0:=by
 unfold DA;rw[bG];simp only[Bool.and_eq_true,decide_eq_true_eq]
theorem ZH (h1:f 1=sv) (h10:f 10=.int .i64 (i:Int)) (h11:f 11=.pointer (some ⟨bp,0,none⟩)) (h13:f 13=.int .i64 u)
  (B:Bl A bp [.int .i64 K,.int .u64 m.toNat]) (hs:aO A sv (iL st)) (hl:st.length<=10) (hK1:1<=K)
  (hR:Pv st K m u->∀f',f' 4=.int .i64 3->f' 5=.int .i64 (i:Int)->Qb .r f' A)
  (hN:¬Pv st K m u->∀f',Qb .n f' A):vc P (Pu ι) Qb f A:=by
 unfold Pu kA kB kC kD ke kG kH kK kO kV kY;have c0:cell A ⟨bp,0,none⟩=some (.int .i64 K):=by rw[B.cell];rfl
 have hlen:aU sv=st.length:=by rw[hs.len,aA]
 simp only[go_sem,Za,Zb,ae,h1,hs.aq,hlen];refine aD st.length [100,15,16,118,14,99] rfl rfl (by omega) (by rfl) (by rfl) (fun k g A'=>g 14=.int .i64 ((if u=0 then 0 else DA st m u k:Nat):Int)/\A'=A) ⟨by simp only[go_sem,Za,Zb,ae];unfold DA;simp[cn],rfl⟩ ?_ ?_
 ·rintro k g A' hk gi gn ⟨g14,rfl⟩;simp only[go_sem,Za,Zb,ae]at gi gn g14;have hne:iL st≠[]:=fun h=>by have:=congrArg List.length h;rw[aA,List.length_nil]at this;omega
  obtain⟨sb,so,sc,rfl,hsc,hcell⟩:=hs.cells hne;have c1:=hcell k (by rw[aA];exact hk);rw[dk _ _ hk]at c1;simp only[go_sem,Za,Zb,ae,gi,ak,aA,c1];refine⟨by omega,?_⟩;have hle:DA st m u k<=10:=Nat.le_trans (kc _ _) (by omega);refine ZG (i:=k) (cc:=if u=0 then 0 else DA st m u k) (u:=u) (w:=st.getD k 0) (K:=K) (m:=m) (by simp only[go_sem,Za,Zb,ae,h11]) (by simp only[go_sem,Za,Zb,ae,h13]) (by simp only[go_sem,Za,Zb,ae,g14]) (by rfl) (by rfl) B (by omega) (by split<;>omega) fun f' xF h14=>?_;simp only[go_sem,Za,Zb,ae];rw[h14]
  congr 2
  by_cases e0:u=0
  ·simp[e0]
  ·rw[Pw];simp[e0,and_comm]
 ·rintro g A' gi ⟨g14,rfl⟩;simp only[go_sem,Za,Zb,ae]at g14
  by_cases e0:u=0
  ·have d1:decide ((0:Int)>K)=false:=decide_eq_false (by omega);have aeI:g 14=.int .i64 0:=by rw[g14,if_pos e0];rfl
   simp only[go_sem,Za,Zb,ae,aeI,h11,c0,d1];exact hN (fun h=>h.1 e0) _
  ·rw[if_neg e0]at g14
   by_cases e1:(DA st m u st.length:Int)>K
   ·have d1:decide ((DA st m u st.length:Int)>K)=true:=decide_eq_true e1;simp only[go_sem,Za,Zb,ae,g14,h10,h11,c0,d1];exact hR ⟨e0,by omega⟩ _ (by rfl) (by rfl)
   ·have d1:decide ((DA st m u st.length:Int)>K)=false:=decide_eq_false e1;simp only[go_sem,Za,Zb,ae,g14,h11,c0,d1];exact hN (fun h=>e1 (by have:=h.2;omega)) _
theorem ZI (h1:f 1=sv) (h6:f 6=.int .i64 (i:Int)) (h7:f 7=.pointer (some ⟨b7,0,none⟩))
  (B7:Bl A b7 (pE x)) (hs:aO A sv (iL st)) (hn:st.length=n) (hx:kg (n:Int) x)
  (hT:fP st x=true->∀f',f' 4=.int .i64 1->f' 5=.int .i64 (i:Int)->Qb .r f' A) (hF:fP st x=false->∀f',Qb .n f' A):vc P (Pr ι) Qb f A:=by
 unfold Pr kA kB kF kC kD kI kP kS kT kU kV kY;obtain⟨x1,x2,x3,x4⟩:=hx;have sg:cell A ⟨b7,0,none⟩=some (.int .i64 x.1):=by rw[B7.cell];rfl
 have pY:cell A ⟨b7,1,none⟩=some (.int .i64 x.2):=by rw[B7.cell];rfl
 obtain⟨sb,so,sc,rfl,k1⟩:=bJ hs x1 (by omega);obtain⟨sb',so',sc',e,k2⟩:=bJ hs x3 (by omega);simp only[Value.slice.injEq,Option.some.injEq,Addr.mk.injEq,true_and,and_true]at e;obtain⟨⟨rfl,rfl⟩,rfl⟩:=e
 by_cases e1:sI st x.1=0
 ·have d1:(sI st x.1 !=0)=false:=by rw[e1];rfl
  simp-implicitDefEqProofs only[go_sem,↓reduceIte,Za,Zb,Zc,reduceCtorEq,ae,Zf,Zg,Zh,Zi,Zd,Ze,h1,h7,sg,pY,k1,k2,d1];refine⟨by omega,hF ?_ _⟩;simp[fP,e1]
 have d1:(sI st x.1 !=0)=true:=bne_iff_ne.2 e1
 by_cases e2:sI st x.1=sI st x.2
 ·have d2:(sI st x.1==sI st x.2)=true:=by rw[e2];simp
  simp-implicitDefEqProofs only[go_sem,↓reduceIte,Za,Zb,Zc,reduceCtorEq,ae,Zf,Zg,Zh,Zi,Zd,Ze,h1,h6,h7,sg,pY,k1,k2,d1,d2];refine⟨by omega,by omega,by omega,hT ?_ _ (by rfl) (by rfl)⟩;simp only[fP,Bool.and_eq_true,decide_eq_true_eq];exact⟨e1,e2⟩
 ·have d2:(sI st x.1==sI st x.2)=false:=by simp[e2]
  simp-implicitDefEqProofs only[go_sem,↓reduceIte,Za,Zb,Zc,reduceCtorEq,ae,Zf,Zg,Zh,Zi,Zd,Ze,h1,h7,sg,pY,k1,k2,d1,d2];refine⟨by omega,by omega,by omega,hF ?_ _⟩;simp[fP,e2]
theorem ZJ (h1:f 1=sv) (h6:f 8=.int .i64 (i:Int)) (h7:f 9=.pointer (some ⟨b7,0,none⟩))
  (B7:Bl A b7 (pE x)) (hs:aO A sv (iL st)) (hn:st.length=n) (hx:kg (n:Int) x)
  (hT:eO st x=true->∀f',f' 4=.int .i64 2->f' 5=.int .i64 (i:Int)->Qb .r f' A) (hF:eO st x=false->∀f',Qb .n f' A):vc P (Ps ι) Qb f A:=by
 unfold Ps kA kB kF kC kD kI kJ kP kS kT kU kV kY;obtain⟨x1,x2,x3,x4⟩:=hx;have sg:cell A ⟨b7,0,none⟩=some (.int .i64 x.1):=by rw[B7.cell];rfl
 have pY:cell A ⟨b7,1,none⟩=some (.int .i64 x.2):=by rw[B7.cell];rfl
 obtain⟨sb,so,sc,rfl,k1⟩:=bJ hs x1 (by omega);obtain⟨sb',so',sc',e,k2⟩:=bJ hs x3 (by omega);simp only[Value.slice.injEq,Option.some.injEq,Addr.mk.injEq,true_and,and_true]at e;obtain⟨⟨rfl,rfl⟩,rfl⟩:=e
 by_cases e1:sI st x.1=0
 ·have d1:(sI st x.1 !=0)=false:=by rw[e1];rfl
  simp-implicitDefEqProofs only[go_sem,↓reduceIte,Za,Zb,Zc,reduceCtorEq,ae,Zf,Zg,Zh,Zi,Zd,Ze,h1,h7,sg,pY,k1,k2,d1];refine⟨by omega,hF ?_ _⟩;simp[eO,e1]
 have d1:(sI st x.1 !=0)=true:=bne_iff_ne.2 e1
 by_cases e0:sI st x.2=0
 ·have d0:(sI st x.2 !=0)=false:=by rw[e0];rfl
  simp-implicitDefEqProofs only[go_sem,↓reduceIte,Za,Zb,Zc,reduceCtorEq,ae,Zf,Zg,Zh,Zi,Zd,Ze,h1,h7,sg,pY,k1,k2,d1,d0];refine⟨by omega,by omega,hF ?_ _⟩;simp[eO,e0]
 have d0:(sI st x.2 !=0)=true:=bne_iff_ne.2 e0
 by_cases e2:sI st x.1=sI st x.2
 ·have d2:(sI st x.1 !=sI st x.2)=false:=by rw[e2];simp
  simp-implicitDefEqProofs only[go_sem,↓reduceIte,Za,Zb,Zc,reduceCtorEq,ae,Zf,Zg,Zh,Zi,Zd,Ze,h1,h7,sg,pY,k1,k2,d1,d0,d2];refine⟨by omega,by omega,by omega,by omega,hF ?_ _⟩;simp[eO,e2]
 ·have d2:(sI st x.1 !=sI st x.2)=true:=bne_iff_ne.2 e2;simp-implicitDefEqProofs only[go_sem,↓reduceIte,Za,Zb,Zc,reduceCtorEq,ae,Zf,Zg,Zh,Zi,Zd,Ze,h1,h6,h7,sg,pY,k1,k2,d1,d0,d2];refine⟨by omega,by omega,by omega,by omega,hT ?_ _ (by rfl) (by rfl)⟩;simp only[eO,Bool.and_eq_true,decide_eq_true_eq];exact⟨⟨e1,e0⟩,e2⟩
def vq (P:Program) (k:FuncId):Prop:=∀(F:cf) (v sv:Value) (st:List Int) (H:Hp),c9 H v F->Good F->aO H sv (iL st)->st.length=F.st.length->an P k #[v,sv] H fun r H'=>r=.tuple #[.int .i64 ((fQ F st).1:Int),.int .i64 ((fQ F st).2:Int)]/\af (fun _=>False) H H'
theorem Uk {k:FuncId} (hk:al P k (GA ι) GB 2):vq P k:=by
 intro F v sv st H hv hG hst hl;have qM:=hG.lim;unfold iQ at qM;obtain⟨s,b,d,a,m,rfl,h1,h2,h3,h4,h5⟩:=hv;refine qI fun Q hQ=>?_;refine ah hk (args:=[_,_]) (by simp) ?_;unfold GA GB kA kB kC kD ke kG kH kK kN kO kR kV kY;simp only[go_sem,Za,Zb];refine ay fun H1 b2 e1 z1 B1 K1=>?_;have bQ:Bl H1 b2 [s,b,d,a,m]:=B1;have TN:∀j,(hj:j<F.di.length)->kg (F.st.length:Int) F.di[j]:=fun j hj=>(hG.di _ (List.getElem_mem hj)).1;have R8:∀j,(hj:j<F.sa.length)->kg (F.st.length:Int) F.sa[j]:=fun j hj=>(hG.sa _ (List.getElem_mem hj)).1;have hmo:∀j,(hj:j<F.mo.length)->1<=F.mo[j].1:=fun j hj=>by
  have:=hG.mo _ (List.getElem_mem hj);unfold pd at this
  split at this
  ·omega
  ·next h=>omega
 have fin:∀(x y:Nat) A',af (fun _=>False) H1 A'->fQ F st=(x,y)->Q (.tuple #[.int .i64 (x:Int),.int .i64 (y:Int)]) A':=fun x y A' K h=>by
  rw[hQ];exact⟨by rw[h],K1.trans K⟩
 have c2:cell H1 ⟨b2,2,none⟩=some d:=by rw[bQ.cell];rfl
 simp only[go_sem,Za,Zb,ae,c2,h3.aq,h3.len];refine aD F.di.length [21,7,6,43,4,5,20] rfl rfl (by omega) (by rfl) (by rfl) (fun i g X=>(∀j,(hj:j<F.di.length)->j<i->fP st F.di[j]=false)/\af (fun _=>False) H1 X) ⟨fun j _ h=>by omega,af.refl _ _⟩ ?_ ?_
 ·rintro i g X hi gi gn ⟨hp,KX⟩;simp only[go_sem,Za,Zb,ae]at gi gn;have kh:=K1.trans KX;obtain⟨pb,po,pc,gz,nz,hld⟩:=(h3.aj kh).elem (enc:=pE) (k:=2) (fun _=>rfl) hi;obtain⟨y,hy⟩:∃y,y=F.di[i]:=⟨_,rfl⟩
  rw[<-hy]at hld;have cU:aR X ⟨pb,po+i*2,none⟩ 2=some #[.int .i64 y.1,.int .i64 y.2]:=hld;simp only[go_sem,Za,Zb,gi,gz,ak,aC,cU];refine⟨by omega,?_⟩;refine ef [.int .i64 y.1,.int .i64 y.2] (.int .i64 (i:Int)) rfl (by rfl) (by rfl) rfl rfl rfl fun A1 b7 e7 z7 B7 K7=>?_;simp only[go_sem,Za,Zb,ae];refine ZI (i:=i) (x:=y) (st:=st) (by rfl) (by rfl) (by rfl) B7 ((hst.ai kh (by simp)).ai K7 (by simp)) hl (by rw[hy];exact TN i hi) (fun hh g' r4 r5=>?_) (fun hh g'=>?_)
  ·simp only[go_sem,Za,Zb,ae,r4,r5];refine fin 1 i A1 (KX.trans K7) ?_;unfold fQ;rw[qN hi (by rw[<-hy];exact hh) hp]
  ·simp only[go_sem,Za,Zb,ae];exact⟨gA hi (by rw[<-hy];exact hh) hp,KX.trans K7⟩
 rintro g X gi ⟨Sa,KX⟩;have fD:F.di.findIdx? (fP st)=none:=mF fun j hj=>Sa j hj hj;have c3:cell X ⟨b2,3,none⟩=some a:=by rw[(KX.bl bQ (by simp)).cell];rfl
 simp only[go_sem,Za,Zb,ae,c3,h4.aq,h4.len];refine aD F.sa.length [50,9,8,80,4,5,49] rfl rfl (by omega) (by rfl) (by rfl) (fun i g X=>(∀j,(hj:j<F.sa.length)->j<i->eO st F.sa[j]=false)/\af (fun _=>False) H1 X) ⟨fun j _ h=>by omega,KX⟩ ?_ ?_
 ·clear KX Sa gi c3;rintro i g1 X hi gi gn ⟨hp,KX⟩;simp only[go_sem,Za,Zb,ae]at gi gn;have kh:=K1.trans KX;obtain⟨pb,po,pc,gz,nz,hld⟩:=(h4.aj kh).elem (enc:=pE) (k:=2) (fun _=>rfl) hi;obtain⟨y,hy⟩:∃y,y=F.sa[i]:=⟨_,rfl⟩
  rw[<-hy]at hld;have cU:aR X ⟨pb,po+i*2,none⟩ 2=some #[.int .i64 y.1,.int .i64 y.2]:=hld;simp only[go_sem,Za,Zb,gi,gz,ak,aC,cU];refine⟨by omega,?_⟩;refine ef [.int .i64 y.1,.int .i64 y.2] (.int .i64 (i:Int)) rfl (by rfl) (by rfl) rfl rfl rfl fun A1 b7 e7 z7 B7 K7=>?_;simp only[go_sem,Za,Zb,ae];refine ZJ (i:=i) (x:=y) (st:=st) (by rfl) (by rfl) (by rfl) B7 ((hst.ai kh (by simp)).ai K7 (by simp)) hl (by rw[hy];exact R8 i hi) (fun hh g' r4 r5=>?_) (fun hh g'=>?_)
  ·simp only[go_sem,Za,Zb,ae,r4,r5];refine fin 2 i A1 (KX.trans K7) ?_;unfold fQ;rw[fD,qN hi (by rw[<-hy];exact hh) hp]
  ·simp only[go_sem,Za,Zb,ae];exact⟨gA hi (by rw[<-hy];exact hh) hp,KX.trans K7⟩
 clear KX c3;rintro g1 X gi1 ⟨Ls,KX⟩;have fS:F.sa.findIdx? (eO st)=none:=mF fun j hj=>Ls j hj hj;have c4:cell X ⟨b2,4,none⟩=some m:=by rw[(KX.bl bQ (by simp)).cell];rfl
 simp only[go_sem,Za,Zb,ae,c4,h5.aq,h5.len];refine aD F.mo.length [87,11,10,91,92,93,94,13,14,97,98,99,100,15,16,118,125,4,5,86] rfl rfl (by omega) (by rfl) (by rfl) (fun i g X=>(∀j,(hj:j<F.mo.length)->j<i->im st F.mo[j]=false)/\af (fun _=>False) H1 X) ⟨fun j _ h=>by omega,KX⟩ ?_ ?_
 ·clear KX c4 Ls gi1;rintro i WS X hi gi gn ⟨hp,KX⟩;simp only[go_sem,Za,Zb,ae]at gi gn;have kh:=K1.trans KX;obtain⟨pb,po,pc,gz,nz,hld⟩:=(h5.aj kh).elem ph hi;obtain⟨y,hy⟩:∃y,y=F.mo[i]:=⟨_,rfl⟩
  rw[<-hy]at hld;have cU:aR X ⟨pb,po+i*2,none⟩ 2=some #[.int .i64 y.1,.int .u64 y.2.toNat]:=hld;simp only[go_sem,Za,Zb,gi,gz,ak,aC,cU];refine⟨by omega,?_⟩;refine ef [.int .i64 y.1,.int .u64 y.2.toNat] (.int .i64 (i:Int)) rfl (by rfl) (by rfl) rfl rfl rfl fun A1 bp ep zp Bp Kp=>?_;have KHA:=kh.trans Kp;have hsA:=hst.ai KHA (by simp);have hlen:aU sv=st.length:=by rw[hst.len,aA]
  simp only[go_sem,Za,Zb,ae,hst.aq,hlen];refine aD st.length [94,13,14,97,98,99,100,15,16,118,125,4,5,93] rfl rfl (by omega) (by rfl) (by rfl) (fun k g A=>(∀j,(hj:j<st.length)->j<k->¬Pv st y.1 y.2 st[j])/\A=A1) ⟨fun j _ h=>by omega,rfl⟩ ?_ ?_
  ·rintro k g3 A hk gk gkn ⟨hq,rfl⟩;simp only[go_sem,Za,Zb,ae]at gk gkn;have hne:iL st≠[]:=fun h=>by have:=congrArg List.length h;rw[aA,List.length_nil]at this;omega
   obtain⟨sb,so,sc,rfl,hsc,hcell⟩:=hsA.cells hne;have c1:=hcell k (by rw[aA];exact hk);rw[dk _ _ hk]at c1;have hgk:st.getD k 0=st[k]:=by rw[List.getD_eq_getElem?_getD,List.getElem?_eq_getElem hk];rfl
   rw[hgk]at c1;simp only[go_sem,Za,Zb,ae,gk,ak,aA,c1];refine⟨by omega,?_⟩;refine ZH (i:=i) (u:=st[k]) (K:=y.1) (m:=y.2) (st:=st) (by simp only[go_sem,Za,Zb,ae];rw[aA]) (by rfl) (by rfl) (by rfl) Bp hsA (by omega) (by rw[hy];exact hmo i hi) (fun hh g' r4 r5=>?_) (fun hh g'=>?_)
   ·simp only[go_sem,Za,Zb,ae,r4,r5];refine fin 3 i A (KX.trans Kp) ?_;unfold fQ;rw[fD,fS];simp only;rw[qN hi (by rw[<-hy];exact DR.2 ⟨k,hk,hh⟩) hp]
   ·simp only[go_sem,Za,Zb,ae];intro j hj hlt
    by_cases e:j=k
    ·subst e;exact hh
    ·exact hq j hj (by omega)
  ·rintro g3 A gk ⟨hq,rfl⟩;simp only[go_sem,Za,Zb,ae];refine⟨gA hi ?_ hp,KX.trans Kp⟩;rw[<-hy];apply Bool.eq_false_iff.2;intro h;obtain⟨j,hj,hh⟩:=DR.1 h;exact hq j hj hj hh
 ·rintro WS Y gi2 ⟨ZF,KY⟩;have fM:F.mo.findIdx? (im st)=none:=mF fun j hj=>ZF j hj hj;simp only[go_sem,Za,Zb,ae];exact fin 0 0 Y KY (by unfold fQ;rw[fD,fS,fM])
end Go.Mg
