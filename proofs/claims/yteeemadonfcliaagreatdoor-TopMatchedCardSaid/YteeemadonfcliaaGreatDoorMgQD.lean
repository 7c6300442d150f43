/- Lemmas of ours. No conditions. -/
import Derived.Test.YteeemadonfcliaaGreatDoorMgQ9
import Derived.Test.YteeemadonfcliaaGreatDoorMgE9
open Nat renaming reduceEqDiff→Za,reduceAdd→Zb,reduceMul→Zc,reduceLeDiff→Zd,reduceLT→Ze
open Int renaming reduceBEq→Zf,reduceBNe→Zg,reduceLE→Zh,reduceLT→Zi
set_option linter.all false
set_option maxRecDepth 100000
namespace Go.Mg
open Go Go.RowKit
def HC (ι:aJ):S:=
 (kY [kC 7 (.int .i64 1)] (.blk 2 (.loop (.seq (kY [kA 35 7,kV 36 (.cm .leq .i64 (.t 35) (.c (.int .i64 6)))] (.ite (.v 36) .skip (.exit 2))) (.seq (.blk 3 (kY [kA 39 5,kA 40 7,kU 41 (.sh .shr .u8 (.t 39) (.t 40)),kU 42 (.bt .and .u8 (.t 41) (.c (.int .u8 1))),kV 43 (.cm .eql .u8 (.t 42) (.c (.int .u8 1)))] (.ite (.v 43) (.reg [kM 44 1 6,kA 45 7,kc 46 (kg (ι.f 131) [.t 44,.t 45]),kf (.stn 1 (.v 6) (.t 46))]) .skip))) (.reg [kA 37 7,kU 38 (.ar .add .i64 (.t 37) (.c (.int .i64 1))),kB 7 38]))))))
def HD (ι:aJ):S:=
 (kY [kA 25 0,kA 26 0,kL 27 26,kU 28 (.m (.mn (.t 27) (.c (.int .i64 5)))),kV 29 (.m (.sls 1 (.t 25) .none (.some (.t 28)))),kO 30 29,kC 31 (.int .i64 0)] (.blk 0 (.loop (kY [kH 32 31 30] (.seq (.ite (.v 32) .skip (.exit 0)) (.seq (.blk 1 (kY [kK 33 1 29 31,kD 34 33,kB 5 34] (kY [kd 6 (.new (ι.t 128) #[kZ])] (.seq (HC ι) (.reg [kA 47 3,kM 48 1 6,kc 49 (.cj (ι.t 128) 1 1 [.t 48]),kc 50 (.app false (ι.t 128) 1 24 #[kZ] (.t 47) (.t 49)),kB 3 50]))))) (.reg [ke 51 31,kB 31 51])))))))
def HE (ι:aJ):S:=
 kY [kC 2 (.bool false)] (.seq (kY [kc 23 (kg (ι.f 444) []),kV 24 (.not (.t 23))] (.ite (.v 24) (kY [kC 2 (.bool false)] .ret) .skip)) (kY [kC 3 (kZ)] (.seq (HD ι) (.seq (kY [kA 52 3,kL 53 52,kV 54 (.cm .eql .i64 (.t 53) (.c (.int .i64 0)))] (.ite (.v 54) (kY [kC 2 (.bool true)] .ret) .skip)) (kY [kA 56 3,kL 57 56,kc 58 (kg (ι.f 443) [.t 57]),kA 59 3,kc 60 (kg (ι.f 376) [.t 58,.t 59,.c (kZ)]),kF 55 60,kQ 61 55 0,kQ 62 55 1,kd 8 (.new (ι.t 358) #[kZ,kZ,kZ,kZ,kZ]),kf (.stn 5 (.v 8) (.t 61)),kB 9 62] (kY [kM 64 5 8,kc 65 (kg (ι.f 373) [.t 64,.c (.int .i64 0)]),kF 63 65,kQ 66 63 0,kQ 67 63 1,kQ 68 63 2,kQ 69 63 3,kd 11 (.new (ι.t 372) #[kZ]),kB 10 66,kf (.stn 1 (.v 11) (.t 67)),kB 12 68,kB 13 69] (.seq (kY [kA 70 9,kU 71 (.cm .neq .i64 (.t 70) (.c (.int .i64 0))),kF 72 71,kS 73 72 false 13,kT 74 72 false (.cm .neq .i64 (.t 73) (.c (.int .i64 0))),kV 75 (.pick (.t 72) (.c (.bool true)) (.t 74))] (.ite (.v 75) (kY [kC 2 (.bool false)] .ret) .skip)) (kY [kA 77 3,kc 78 (kg (ι.f 162) [.t 77]),kF 76 78,kQ 79 76 0,kQ 80 76 1,kB 14 79,kB 15 80] (.seq (kY [kA 81 12,kF 82 81,kS 83 82 false 15,kV 84 (.pick (.t 82) (.c (.bool true)) (.t 83))] (.ite (.v 84) (kY [kA 85 12,kF 86 85,kS 87 86 true 15,kJ 88 86 87,kF 89 88,kS 90 89 true 10,kS 91 89 true 14,.ge (.t 92) (.t 89) true (kg (ι.f 165) [.t 90,.t 91]),kJ 93 89 92,kF 94 93,kT 95 94 true (.m (.ldn 5 (.v 8))),kS 96 94 true 10,.ge (.t 97) (.t 94) true (kg (ι.f 365) [.t 95,.t 96]),kJ 98 94 97,kB 2 98] .ret) .skip)) (kY [kA 100 3,kc 101 (kg (ι.f 153) [.t 100]),kF 99 101,kQ 102 99 0,kQ 103 99 1,kB 16 102,kB 17 103] (kY [kA 104 16,kU 105 (.m (.jA #[.int .u8 0,.int .i64 0,kZ,kZ] [(0,(1,.c (.int .u8 3))),(3,(1,.t 104))])),kc 106 (.cj (ι.t 368) 4 1 [.t 105]),kU 107 (.m (.jA #[kZ] [(0,(1,.t 106))])),kd 18 (.new (ι.t 372) #[kZ]),kf (.stn 1 (.v 18) (.t 107))] (kY [kM 109 5 8,kM 110 1 11,kc 111 (kg (ι.f 437) [.t 109,.t 110]),kF 108 111,kQ 112 108 0,kQ 113 108 1,kB 19 112,kF 20 113] (kY [kM 115 5 8,kM 116 1 18,kc 117 (kg (ι.f 437) [.t 115,.t 116]),kF 114 117,kQ 118 114 0,kQ 119 114 1,kB 21 118,kB 22 119] (kY [kA 120 17,kF 121 120,kS 122 121 true 19,kT 123 121 true (.cm .eql .u8 (.t 122) (.c (.int .u8 1))),kJ 124 121 123,kF 125 124,kS 126 125 true 21,kT 127 125 true (.cm .eql .u8 (.t 126) (.c (.int .u8 1))),kJ 128 125 127,kF 129 128,kS 130 129 true 22,kT 131 129 true (.cm .eql .i64 (.t 130) (.c (.int .i64 0))),kJ 132 129 131,kB 2 132] .ret))))))))))))))
def HF:List RV:=[.t 2]
def DJ (x:UInt8) (u:Nat) (k:Nat):Bool:=decide (1<=k)&&decide (k<u)&&x.toNat.testBit k
def IN (x:UInt8):Nat->Bool:=DJ x 7
def Rq (l:List UInt8):List (Nat->Bool):=(l.take 5).map IN
variable {x:UInt8} {k:Nat} {l:List UInt8} {P:Program} {ι:aJ} {f:Fr} {A0:Hp} {Qb:Ex->Fr->Hp->Prop}
theorem xG {u:Nat} (h1:1<=u) (h6:u<=6):DJ x (u+1)=if x.toNat.testBit u=true then gy (DJ x u) (u:Int)else DJ x u:=by
 funext k
 have e:DJ x (u+1) k=(DJ x u k||(decide (k=u)&&x.toNat.testBit k)):=by
  unfold DJ
  by_cases hk:k=u
  ·subst hk;simp[h1]
  ·have:decide (k<u+1)=decide (k<u):=decide_eq_decide.2 (by omega);rw[this,decide_eq_false hk];simp
 rw[e]
 split
 ·next h=>
  unfold gy
  by_cases hk:k=u
  ·subst hk;simp[h,show k<4096 by omega]
  ·have D1:¬(k:Int)=(u:Int):=by omega
   simp[hk,D1]
 ·next h=>
  by_cases hk:k=u
  ·subst hk;simp[h]
  ·simp[hk]
theorem T0 (x:UInt8):DJ x 1=fun _=>false:=by
 funext k
 unfold DJ
 by_cases h:1<=k
 ·rw[decide_eq_false (show¬k<1 by omega)];simp
 ·rw[decide_eq_false h];simp
theorem Ll (h:IN x k=true):1<=k/\k<=6:=by
 unfold IN DJ at h;simp only[Bool.and_eq_true,decide_eq_true_eq]at h;omega
theorem Lm {i:Nat} (h:((Rq l).getD i fun _=>false) k=true):1<=k/\k<=6:=by
 unfold Rq at h;rw[List.getD_eq_getElem?_getD,List.getElem?_map]at h
 cases hx:(l.take 5)[i]? with
 |none=>rw[hx]at h;simp at h
 |some x=>rw[hx]at h;exact Ll h
theorem Qj:∀(x:Fin 256) (u:Fin 7),(bits BinOp.and IntKind.u8 ((x.val:Int)/2^u.val) 1==1)=x.val.testBit u.val:=by decide+kernel
def T1 (H:Hp) (vs:List Value) (el:List (Nat->Bool)):Prop:=vs.length=el.length/\∀i<vs.length,aS H (.agg #[vs.getD i undef]) (el.getD i fun _=>false)
theorem T1.aj {H H':Hp} {vs:List Value} {el:List (Nat->Bool)} (h:T1 H vs el) (hk:af (fun _=>False) H H'):T1 H' vs el:=⟨h.1,fun i hi=>(h.2 i hi).aj hk⟩
theorem Qk (hw:fc P (ι.f 131)) {b6:Nat} (h5:f 5=.int .u8 (x.toNat:Int)) (h6:f 6=.pointer (some ⟨b6,0,none⟩)) (B6:Bl A0 b6 [.slice none 0 0])
  (hK:∀g X sv,(∀j,j∉[7,36,43]->g j=f j)->Bl X b6 [sv]->aS X (.agg #[sv]) (IN x)->(∀q,aU sv q->A0.size<=q)->af (fun q=>q=b6) A0 X->Qb .n g X):vc P (HC ι) Qb f A0:=by
 unfold HC kA kB kC kM kU kV kc kf kg kY;have hb:=B6.lt;simp-implicitDefEqProofs only[go_sem,zS,↓reduceIte,Za,Zb,Zc,reduceCtorEq,ae,zU,zV,Zf,Zg,Zh,Zi,Zd,Ze,zF];refine aL [36,43,7] rfl (fun t g X=>∃(u:Nat) (sv:Value),1<=u/\u<=7/\t=7 -u/\g 7=.int .i64 (u:Int)/\Bl X b6 [sv]/\aS X (.agg #[sv]) (DJ x u)/\(∀q,aU sv q->A0.size<=q)/\af (fun q=>q=b6) A0 X) 6 ⟨1,_,by omega,by omega,by omega,by simp-implicitDefEqProofs only[go_sem,zS,↓reduceIte,Za,Zb,Zc,reduceCtorEq,ae,zU,zV,Zf,Zg,Zh,Zi,Zd,Ze],B6,by rw[T0];exact aS.empty _ _ _,fun q h=>h.elim,af.refl _ _⟩ ?_;rintro t g X ⟨u,sv,u1,u7,rfl,g7,BX,SX,oX,KX⟩;simp-implicitDefEqProofs only[go_sem,zS,↓reduceIte,Za,Zb,Zc,reduceCtorEq,ae,zU,zV,Zf,Zg,Zh,Zi,Zd,Ze]at g7;have l6:aI X (.pointer (some ⟨b6,0,none⟩)) 1=some #[sv]:=BX.aI 1 rfl;have sX:=KX.size
 by_cases h:(u:Int)<=6
 case neg=>
  have d:decide ((u:Int)<=6)=false:=decide_eq_false h;have:u=7:=by omega
  subst this;simp-implicitDefEqProofs only[go_sem,zS,↓reduceIte,Za,Zb,Zc,reduceCtorEq,ae,zU,zV,Zf,Zg,Zh,Zi,Zd,Ze,zF,g7,d];refine hK _ X sv (fun j hj=>?_) BX SX oX KX;simp only[List.mem_cons,List.not_mem_nil,or_false,not_or]at hj;obtain⟨j1,j2,j3⟩:=hj;simp only[bN,over,j1,j2,j3,if_false,List.mem_cons,List.not_mem_nil,or_false,or_self]
 have d:decide ((u:Int)<=6)=true:=decide_eq_true h;have hbit:(bits BinOp.and IntKind.u8 ((x.toNat:Int)/2^u) 1==1)=x.toNat.testBit u:=by
  have:=Qj ⟨x.toNat,x.toNat_lt⟩ ⟨u,by omega⟩;exact this
 have wu:IntKind.i64.wrap ((u:Int)+1)=((u+1:Nat):Int):=by rw[IntWalk.i64_in _ (by omega)];rfl
 have hsl:ax sv:=by
  obtain⟨_,_,e,hV⟩:=SX
  cases e
  exact hV.sl.ax
 simp-implicitDefEqProofs only[go_sem,zS,↓reduceIte,Za,Zb,Zc,reduceCtorEq,zU,zV,Zf,Zg,Zh,Zi,Zd,Ze,zF,g7,d,h5,hbit,h6,l6,wu];refine⟨by omega,?_⟩
 cases hx:x.toNat.testBit u with
 |false=>
  simp-implicitDefEqProofs only[go_sem,zS,↓reduceIte,Za,Zb,Zc,reduceCtorEq,zU,zV,Zf,Zg,Zh,Zi,Zd,Ze];refine⟨7 -(u+1),by omega,u+1,sv,by omega,by omega,by omega,rfl,BX,?_,oX,KX⟩;rw[xG u1 (by omega),hx,if_neg (by simp)];exact SX
 |true=>
  simp-implicitDefEqProofs only[go_sem,zS,↓reduceIte,Za,Zb,Zc,reduceCtorEq,zU,zV,Zf,Zg,Zh,Zi,Zd,Ze];refine(hw (DJ x u) _ (u:Int) X SX).mono ?_;rintro r X1 ⟨S1,K1,o1⟩;obtain⟨nT,W',rfl,hV⟩:=S1;have S1:aS X1 (.agg #[nT]) (gy (DJ x u) (u:Int)):=⟨nT,W',rfl,hV⟩
  have Z6:ax nT:=hV.sl.ax;have B1:=K1.bl BX (by simp);have t1:=B1.bK (o:=0) (n:=1) (by simp);have a1:bQ #[nT]:=bE (by simp only[List.all_cons,List.all_nil,aM Z6];rfl);have K2:af (fun q=>q=b6) X1 (aA X1 ⟨b6,0,none⟩ [nT]):=(af.refl _ _).aA _ (.inl rfl);have B2:Bl (aA X1 ⟨b6,0,none⟩ [nT]) b6 [nT]:=B1.aA 0 [nT];have o2:∀q,aU nT q->A0.size<=q:=fun q hq=>by
   rcases o1 q hq with h|h
   ·exact oX q h
   ·omega
  rw[ae];simp-implicitDefEqProofs only[go_sem,zS,↓reduceIte,Za,Zb,Zc,reduceCtorEq,ae,zU,zV,Zf,Zg,Zh,Zi,Zd,Ze,zF,h6,t1,g7,wu];refine⟨a1,7 -(u+1),by omega,u+1,nT,by omega,by omega,by omega,rfl,B2,?_,o2,(KX.trans K1.any).trans K2⟩;rw[xG u1 (by omega),hx,if_pos rfl];exact S1.ag K2 fun q hq e=>by
   have:=o2 q hq;omega
theorem Ql (hw:fc P (ι.f 131)) {v:Value} (h0:f 0=v) (h3:f 3=.slice none 0 0) (hv:aG A0 v (w8 l))
  (hK:∀g X v' vs,g 3=v'->aG X v' vs->T1 X vs (Rq l)->af (fun _=>False) A0 X->Qb .n g X):vc P (HD ι) Qb f A0:=by
 unfold HD kA kB kC kD ke kH kK kL kM kO kU kV kc kd kY kZ;have hsl:=hv.ax;have hle:aP v=l.length:=by rw[hv.len,jN]
 have Ot:(if(5:Int)<(l.length:Int)then(5:Int)else(l.length:Int))=((min l.length 5:Nat):Int):=by split<;>omega
 have hcap:l.length<=eO v:=by have:=hv.cap;rwa [jN]at this
 have sk:=hv.take (n:=min l.length 5) (by rw[jN];omega);have htl:(w8 l).take (min l.length 5)=w8 (l.take 5):=by
  rw[Jh]
  congr 1
  rw[List.take_eq_take_iff];omega
 rw[htl]at sk;have OI:=sk.ax;have I8:aP (vl v 1 none (some ((min l.length 5:Nat):Int)))=min l.length 5:=by rw[sk.len,jN,List.length_take];omega
 simp-implicitDefEqProofs only[go_sem,zS,↓reduceIte,Za,Zb,Zc,reduceCtorEq,zU,zV,Zf,Zg,Zh,Zi,Zd,Ze,zF,h0,hsl,hle,Ot,OI,I8];generalize vl v 1 none (some ((min l.length 5:Nat):Int))=tv at sk I8 OI⊢;refine⟨by omega,?_⟩;have hN:(l.take 5).length=min l.length 5:=by rw[List.length_take];omega
 rw[<-hN];rw[<-hN]at I8;refine aO (l.take 5).length [32,5,6,7,36,43,3,31] rfl rfl (by omega) (by simp-implicitDefEqProofs only[go_sem,zS,↓reduceIte,Za,Zb,Zc,reduceCtorEq,ae,zU,zV,Zf,Zg,Zh,Zi,Zd,Ze]) (by simp-implicitDefEqProofs only[go_sem,zS,↓reduceIte,Za,Zb,Zc,reduceCtorEq,ae,zU,zV,Zf,Zg,Zh,Zi,Zd,Ze]) (fun i g X=>∃lv vs,g 3=lv/\bY X lv vs/\T1 X vs (((l.take 5).take i).map IN)/\(∀q,az lv q->A0.size<=q)/\(∀x∈vs,∀q,aU x q->¬az lv q)/\af (fun _=>False) A0 X) ⟨_,[],by simp-implicitDefEqProofs only[go_sem,zS,↓reduceIte,Za,Zb,Zc,reduceCtorEq,ae,zU,zV,Zf,Zg,Zh,Zi,Zd,Ze,h3],bY.nil _,⟨by simp,fun i h=>by simp at h⟩,fun q h=>h.elim,fun x h=>by simp at h,af.refl _ _⟩ ?_ ?_
 ·rintro i g X hi gi gn ⟨lv,vs,g3,OX,UX,oX,rX,KX⟩;simp-implicitDefEqProofs only[go_sem,zS,↓reduceIte,Za,Zb,Zc,reduceCtorEq,ae,zU,zV,Zf,Zg,Zh,Zi,Zd,Ze]at gi gn g3;have sX:=KX.size;have tX:=sk.ag KX (by simp);obtain⟨ub,uo,uc,hue,huc,hcell⟩:=tX.cells (by intro e;have:=congrArg List.length e;rw[jN]at this;simp only[List.length_nil]at this;omega);have hci:=hcell i (by rw[jN];exact hi);rw[NV _ _ hi]at hci;rw[jN]at hue;obtain⟨x,hx⟩:∃x,x=(l.take 5)[i]:=⟨_,rfl⟩
  have hxd:(l.take 5).getD i 0=x:=by rw[List.getD_eq_getElem?_getD,List.getElem?_eq_getElem hi,hx];rfl
  rw[hxd]at hci;have hvl:vs.length=i:=by rw[UX.1,List.length_map,List.length_take];omega
  simp-implicitDefEqProofs only[go_sem,zS,↓reduceIte,Za,Zb,Zc,reduceCtorEq,zU,zV,Zf,Zg,Zh,Zi,Zd,Ze,zF,gi,hue,ai,Nat.mul_one,hci];refine⟨by omega,?_⟩;refine ay fun X1 b6 e6 z6 B6 K6=>?_;have ID:Bl X1 b6 [.slice none 0 0]:=B6;have s6:=K6.size;simp-implicitDefEqProofs only[go_sem,zS,↓reduceIte,Za,Zb,Zc,reduceCtorEq,zU,zV,Zf,Zg,Zh,Zi,Zd,Ze,zF];refine Qk hw (x:=x) (b6:=b6) (by simp-implicitDefEqProofs only[go_sem,zS,↓reduceIte,Za,Zb,Zc,reduceCtorEq,ae,zU,zV,Zf,Zg,Zh,Zi,Zd,Ze]) (by simp-implicitDefEqProofs only[go_sem,zS,↓reduceIte,Za,Zb,Zc,reduceCtorEq,ae,zU,zV,Zf,Zg,Zh,Zi,Zd,Ze]) ID fun h X2 sv hf B2 S2 o2 K2=>?_;have h6:h 6=.pointer (some ⟨b6,0,none⟩):=by rw[hf 6 (by decide)];simp-implicitDefEqProofs only[go_sem,zS,↓reduceIte,Za,Zb,Zc,reduceCtorEq,ae,zU,zV,Zf,Zg,Zh,Zi,Zd,Ze]
  have QU:h 3=lv:=by rw[hf 3 (by decide)];simp-implicitDefEqProofs only[go_sem,zS,↓reduceIte,Za,Zb,Zc,reduceCtorEq,ae,zU,zV,Zf,Zg,Zh,Zi,Zd,Ze,g3]
  have s2:=K2.size;have Z7:ax sv:=by
   obtain⟨_,_,e,hV⟩:=S2
   cases e
   exact hV.sl.ax
  have IG:af (fun _=>False) X X2:=K6.trans' K2 fun q hq e=>by omega
  have l6:aI X2 (.pointer (some ⟨b6,0,none⟩)) 1=some #[sv]:=B2.aI 1 rfl;simp-implicitDefEqProofs only[go_sem,zS,↓reduceIte,Za,Zb,Zc,reduceCtorEq,zU,zV,Zf,Zg,Zh,Zi,Zd,Ze,zF,h6,QU,l6];refine aF fun X3 bb eb zb BB KB=>?_;have BB':Bl X3 bb [sv]:=BB;have s3:=KB.size;have a1:bQ [sv].toArray:=bE (by simp only[List.all_cons,List.all_nil,aM Z7];rfl);simp-implicitDefEqProofs only[go_sem,zS,↓reduceIte,Za,Zb,Zc,reduceCtorEq,zU,zV,Zf,Zg,Zh,Zi,Zd,Ze,zF];refine eG (OX.ag (IG.trans KB) (by simp)) (aG.bl BB' 0 1 1 (by omega) (by simp)) a1 rfl (by unfold maxLen;simp;omega) (by simp;omega) fun v' A3 O3 K3 o3=>?_;have hown:∀q,az lv q->q<X.size:=fun q hq=>OX.bM hq;have hus:∀q,aU sv q->q<X2.size:=fun q hq=>aS.bM (x:=.agg #[sv]) S2 (k:=q) hq;have hvs:∀z∈vs,∀q,aU z q->q<X.size:=fun z hz q hq=>by
   obtain⟨j,hj,rfl⟩:=List.getElem_of_mem hz;have:=UX.2 j hj;rw[List.getD_eq_getElem?_getD,List.getElem?_eq_getElem hj]at this;exact this.bM (k:=q) hq
  simp-implicitDefEqProofs only[go_sem,zS,↓reduceIte,Za,Zb,Zc,reduceCtorEq,ae,zU,zV,Zf,Zg,Zh,Zi,Zd,Ze,zF];refine⟨v',vs++[sv],rfl,O3,?_,fun q hq=>?_,fun z hz q hq h'=>?_,((KX.trans IG).trans KB).trans' K3 fun q hq h'=>by have:=oX q h';omega⟩
  ·have e:((l.take 5).take (i+1)).map IN=((l.take 5).take i).map IN++[IN x]:=by rw[yZ hi,List.map_append,hx];rfl
   rw[e];have qU:=UX.1;refine⟨by rw[List.length_append,List.length_append,qU];rfl,fun j hj=>?_⟩;rw[List.length_append,List.length_singleton]at hj
   by_cases qS:j<vs.length
   ·rw[List.getD_eq_getElem?_getD,List.getElem?_append_left qS,List.getD_eq_getElem?_getD (l:=_++[IN x]),List.getElem?_append_left (by omega),<-List.getD_eq_getElem?_getD,<-List.getD_eq_getElem?_getD];refine((UX.2 j qS).aj (IG.trans KB)).ag K3 fun q hq=>rX _ (List.getElem_mem qS) q ?_;have hq:aU (vs.getD j undef) q:=hq
    rwa [List.getD_eq_getElem?_getD,List.getElem?_eq_getElem qS]at hq
   ·have:j=vs.length:=by omega
    subst this;rw[List.getD_eq_getElem?_getD,List.getElem?_append_right (Nat.le_refl _),Nat.sub_self,List.getD_eq_getElem?_getD (l:=_++[IN x]),qU,List.getElem?_append_right (Nat.le_refl _),Nat.sub_self];exact(S2.aj KB).ag K3 fun q hq h'=>by
     have:=hown q h';have:=o2 q hq;omega
  ·rcases o3 q hq with h'|h'
   ·exact oX q h'
   ·omega
  ·rcases List.mem_append.1 hz with hz|hz
   ·rcases o3 q h' with h'|h'
    ·exact rX z hz q hq h'
    ·have:=hvs z hz q hq;omega
   ·simp only[List.mem_singleton]at hz;subst hz;have h1:=o2 q hq;have h2:=hus q hq;rcases o3 q h' with h'|h'
    ·have:=hown q h';omega
    ·omega
 ·rintro g X gi ⟨lv,vs,g3,OX,UX,oX,rX,KX⟩;simp-implicitDefEqProofs only[go_sem,zS,↓reduceIte,Za,Zb,Zc,reduceCtorEq,ae,zU,zV,Zf,Zg,Zh,Zi,Zd,Ze]at g3;rw[List.take_of_length_le (Nat.le_refl _)]at UX;exact hK _ X lv vs (by simp-implicitDefEqProofs only[go_sem,zS,↓reduceIte,Za,Zb,Zc,reduceCtorEq,ae,zU,zV,Zf,Zg,Zh,Zi,Zd,Ze,g3]) OX.sl UX KX
end Go.Mg
namespace Go.Mg
open Go Go.RowKit
theorem M9:∀n,Ae n=Aq n
 |0=>rfl
 |n+1=>by
  rw[Ae,M9 n];unfold Aq IJ;rw[List.range_succ,List.flatMap_append];simp
theorem Qm (el:List (Nat->Bool)):bV (jD el.length) el=r0 el:=by
 unfold bV r0 jD;rw[M9]
theorem Ln (l:List UInt8):(Rq l).length<=5:=by
 unfold Rq;rw[List.length_map,List.length_take];omega
theorem HG (n:Nat) (t:List Int):et (List.replicate n 0) t=true:=by
 unfold et;rw[List.all_eq_true];intro k hk;have:(List.replicate n (0:Int)).getD k 0=0:=by
  rw[List.getD_eq_getElem?_getD,List.getElem?_replicate]
  split<;>rfl
 rw[this];rfl
theorem uT.ek {H:Hp} {b:Nat} {v:Value} {d:List Nat} (B:Bl H b [.int .u8 3,.int .i64 0,.slice none 0 0,v]) (hv:aG H v (iN d)):uT H (.slice (some ⟨b,0,none⟩) 1 1) [⟨3,0,[],d⟩]:=by
 obtain⟨s,rfl⟩:=fA hv.ax;refine⟨⟨[(3,0,(none,0,0),s)],bo.bl (enc:=jC) (k:=4) (l:=[(3,0,(none,0,0),s)]) B rfl (by simp[jC]) (by simp),rfl,fun i hi=>?_⟩,by simp⟩;have:i=0:=by simp at hi;omega
 subst this;exact⟨rfl,rfl,aG.nil _ _ _,hv⟩
structure Z8 (P:Program) (ι:aJ):Prop where
 aw:qm P ι (ι.f 444)
 dif:jd P (ι.f 443)
 wth:fc P (ι.f 131)
 prb:dg P ι (ι.f 376)
 slv:dQ P ι (ι.f 373)
 lst:j0 P ι (ι.f 162)
 dfc:qz P ι (ι.f 153)
 val:pU P ι (ι.f 365)
 BR:jt P ι (ι.f 437)
 ZC:nP P (ι.f 165)
theorem Qn {P:Program} {ι:aJ} {k:FuncId} (hk:aq P k (HE ι) HF 1) (c:Z8 P ι):∀(l:List UInt8) (v:Value) (H:Hp),br ι H->aG H v (w8 l)->an P k #[v] H fun x H'=>x=.bool true/\af (fun _=>False) H H':=by
 intro l v H hT hv;refine qI fun Q hQ=>?_;refine ah hk (args:=[_]) (by simp) ?_;unfold HE HF kA kB kF kC kJ kL kM kQ kS kT kU kV kc kd kf kg kY kZ;simp-implicitDefEqProofs only[go_sem,zS,↓reduceIte,Za,Zb,Zc,reduceCtorEq,zU,zV,Zf,Zg,Zh,Zi,Zd,Ze,zF];refine(c.aw H hT).mono ?_;rintro x H1 ⟨rfl,K1⟩;rw[ae];simp-implicitDefEqProofs only[go_sem,zS,↓reduceIte,Za,Zb,Zc,reduceCtorEq,zU,zV,Zf,Zg,Zh,Zi,Zd,Ze,zF,Bool.not_true];refine Ql c.wth (l:=l) (v:=v) (by simp-implicitDefEqProofs only[go_sem,zS,↓reduceIte,Za,Zb,Zc,reduceCtorEq,ae,zU,zV,Zf,Zg,Zh,Zi,Zd,Ze]) (by simp-implicitDefEqProofs only[go_sem,zS,↓reduceIte,Za,Zb,Zc,reduceCtorEq,ae,zU,zV,Zf,Zg,Zh,Zi,Zd,Ze]) (hv.ag K1 (by simp)) fun g A v3 vs g3 SA UA KA=>?_;have U7:=K1.trans KA;obtain⟨el,hel⟩:∃el,el=Rq l:=⟨_,rfl⟩
 rw[<-hel]at UA;have Z9:el.length<=5:=by rw[hel];exact Ln l
 have us:∀i u,(el.getD i fun _=>false) u=true->1<=u/\u<=6:=fun i u h=>by rw[hel]at h;exact Lm h
 have hE:Qi el:=fun i u h=>by have:=us i u h;omega
 have us2:∀i u,(el.getD i fun _=>false) u=true->1<=u/\u<=256:=fun i u h=>by have:=us i u h;omega
 obtain⟨hvl,hvs⟩:=UA;have l3:aP v3=el.length:=by rw[SA.len,hvl]
 have s3:=SA.ax;have xS:((0:Int)==0)=true:=rfl;have Ri:((0:Int)!=0)=false:=rfl;have e11:((1:Int)==1)=true:=rfl
 by_cases h0:el.length=0
 ·have d0:((el.length:Int)==0)=true:=by rw[h0];rfl
  simp-implicitDefEqProofs only[go_sem,zS,↓reduceIte,Za,Zb,Zc,reduceCtorEq,ae,zU,zV,Zf,Zg,Zh,Zi,Zd,Ze,zF,g3,l3,s3,d0];rw[hQ];exact⟨rfl,U7⟩
 have d0:((el.length:Int)==0)=false:=by rw[beq_eq_false_iff_ne];omega
 have hn0:0<el.length:=by omega
 simp-implicitDefEqProofs only[go_sem,zS,↓reduceIte,Za,Zb,Zc,reduceCtorEq,zU,zV,Zf,Zg,Zh,Zi,Zd,Ze,zF,g3,l3,s3,d0];refine(c.dif el.length A Z9).mono ?_;rintro r A1 ⟨⟨w1,w2,w3,w4,w5,rfl⟩,hF,K2⟩;rw[ae];simp-implicitDefEqProofs only[go_sem,zS,↓reduceIte,Za,Zb,Zc,reduceCtorEq,zU,zV,Zf,Zg,Zh,Zi,Zd,Ze,zF,g3];have G:=Tz hn0 Z9 us2;have hfx:fixF el.length []=List.replicate el.length 0:=by unfold fixF;rw[if_pos rfl]
 refine(c.prb (jD el.length) el vs [] _ v3 _ A1 A1 (af.refl _ _) hF (SA.ag K2 (by simp)) hvl (u5 _) (fun i hi=>(hvs i hi).aj K2) (aG.nil _ _ _) (.inl rfl) G (by rw[hfx];exact Hc _)).mono ?_;rintro r A2 ⟨pv,rfl,hP,K3⟩;rw[hfx]at hP;have hP:=hP A2 (fun _=>False) (af.refl _ _) fun q h=>h.elim;have hP:dE A2 pv (r0 el) (List.replicate el.length 0):=by rw[<-Qm];exact hP
 rw[Qm]at G;have Tq:=hP;obtain⟨x1,x2,x3,x4,x5,pvs,pms,rfl,hpr⟩:=hP;have aw:([x1,x2,x3,x4,x5].all fun v=>v.oneCell')=true:=by
  simp only[List.all_cons,List.all_nil,Bool.and_true,Bool.and_eq_true];exact⟨aM hpr.e.ax,aM hpr.d.ax,aM hpr.s.ax,aM hpr.m.ax,aM hpr.f.ax⟩
 have aaa:=(U7.trans K2).trans K3;rw[ae];simp-implicitDefEqProofs only[go_sem,zS,↓reduceIte,Za,Zb,Zc,reduceCtorEq,zU,zV,Zf,Zg,Zh,Zi,Zd,Ze,zF];refine bB [x1,x2,x3,x4,x5] (by simp-implicitDefEqProofs only[go_sem,zS,↓reduceIte,Za,Zb,Zc,reduceCtorEq,ae,zU,zV,Zf,Zg,Zh,Zi,Zd,Ze]) rfl rfl aw fun A3 b8 e8 z8 B8 K4=>?_;have hP3:=Tq.aj K4;have T3:=aaa.trans K4;have SB:xq (r0 el) (List.replicate el.length 0):=by
  have:=Zy hn0 Z9 us2 (Hc el.length)
  rwa [Qm]at this
 obtain⟨w,hw,hw1,Oo⟩:=SB.w;simp-implicitDefEqProofs only[go_sem,zS,↓reduceIte,Za,Zb,Zc,reduceCtorEq,zU,zV,Zf,Zg,Zh,Zi,Zd,Ze,zF,B8.aI 5 rfl];refine(c.slv (r0 el) _ w _ A3 (hT.ag T3) hP3 G SB.u hw hw1 Oo).mono ?_;rintro r A4 ⟨sv,rv,My,rfl,K5,hs⟩;rw[ae];simp-implicitDefEqProofs only[go_sem,zS,↓reduceIte,Za,Zb,Zc,reduceCtorEq,zU,zV,Zf,Zg,Zh,Zi,Zd,Ze,zF];refine fR [rv] sv rfl (by simp-implicitDefEqProofs only[go_sem,zS,↓reduceIte,Za,Zb,Zc,reduceCtorEq,ae,zU,zV,Zf,Zg,Zh,Zi,Zd,Ze]) (by simp-implicitDefEqProofs only[go_sem,zS,↓reduceIte,Za,Zb,Zc,reduceCtorEq,ae,zU,zV,Zf,Zg,Zh,Zi,Zd,Ze]) rfl rfl (by simp only[List.all_cons,List.all_nil,aM My];rfl) fun A5 b11 e9 z9 B11 K6=>?_;have T4:=(T3.trans K5).trans K6;have IL:=K5.trans K6;have B85:=IL.bl B8 (by simp);have hP5:=hP3.aj IL;have S5:aG A5 v3 vs:=((((SA.ag K2 (by simp)).ag K3 (by simp)).ag K4 (by simp)).ag IL (by simp))
 have hvs5:∀i<vs.length,aS A5 (.agg #[vs.getD i undef]) (el.getD i fun _=>false):=fun i hi=>(((hvs i hi).aj K2).aj K3).aj (K4.trans IL);have gr:∀X,af (fun _=>False) A5 X->Hd X v3 el fun _=>True:=fun X K=>⟨vs,S5.ag K (by simp),hvl,fun i hi=>(hvs5 i (by omega)).aj K,fun _ _=>trivial,fun _ _ _ _=>trivial⟩
 simp-implicitDefEqProofs only[go_sem,zS,↓reduceIte,Za,Zb,Zc,reduceCtorEq,zU,zV,Zf,Zg,Zh,Zi,Zd,Ze,zF,Ri,g3];refine(c.lst el v3 _ A5 (hT.ag T4) (gr A5 (af.refl _ _)) (by omega)).mono ?_;rintro r A6 ⟨hL,K7⟩;have T6:je el=0:=(hE.low (by omega)).BR;have Lo:=T4.trans K7;rw[ae];have Tr:=K7.bl B85 (by simp);have aab:=K7.bl B11 (by simp);have hP6:=hP5.aj K7;have l8:aI A6 (.pointer (some ⟨b8,0,none⟩)) 5=some #[x1,x2,x3,x4,x5]:=Tr.aI 5 rfl
 cases HH:dd (r0 el) (List.replicate el.length 0)with
 |some t=>
  rw[HH]at hs;have hs:aG A4 sv (iL t):=hs;obtain⟨t1,t2,t3⟩:=DI hE (by omega) HH;rcases hL with⟨nz,rfl⟩|⟨v',L,_,p1,p2,p3,rfl,p4,_⟩
  ·exfalso
   rcases nz with h|⟨L,hX,i,hi,sW⟩
   ·exact h T6
   ·have h1:=hX.max t2.1;rw[t2.full]at h1;have h2:=jy.1 (Nat.le_antisymm (dw _ _) h1) i hi;unfold mt at h2;rw[sW]at h2;simp at h2
  ·have hLt:L=t:=by
    refine List.ext_getElem (by omega) fun i h1 h2=>?_;have:=dT.uniq p2 t3 p1 t2 i (by omega);unfold gi at this;rw[List.getD_eq_getElem?_getD,List.getElem?_eq_getElem h1,List.getD_eq_getElem?_getD,List.getElem?_eq_getElem h2]at this;exact this
   subst hLt;have s6:aG A6 sv (iL L):=(hs.ag K6 (by simp)).ag K7 (by simp);have hd:decide (L=L)=true:=decide_eq_true rfl;simp-implicitDefEqProofs only[go_sem,zS,↓reduceIte,Za,Zb,Zc,reduceCtorEq,zU,zV,Zf,Zg,Zh,Zi,Zd,Ze,zF,Option.isSome_some];refine(c.ZC L L sv v' A6 s6 p4 (by omega)).mono ?_;rintro y A7 ⟨rfl,rfl⟩;rw[ae];simp-implicitDefEqProofs only[go_sem,zS,↓reduceIte,Za,Zb,Zc,reduceCtorEq,zU,zV,Zf,Zg,Zh,Zi,Zd,Ze,zF,hd,l8];have ek:=(vg hE (by omega) t1).2 t2;have Vt:∀u∈L,0<=u/\u<=256:=fun u hu=>by
    obtain⟨k,hk,rfl⟩:=List.getElem_of_mem hu;obtain⟨n,e,hn⟩:=jw (oe ek hk).2;have:=us k n (bH.1 hn).2;rw[List.getD_eq_getElem?_getD,List.getElem?_eq_getElem hk,Option.getD_some]at e;omega
   refine(c.val (r0 el) (List.replicate el.length 0) L _ sv A7 (hT.ag Lo) hP6 G SB.u ⟨t1,fun u hu=>Vt u hu⟩ s6).mono ?_;rintro y A8 ⟨rfl,K8⟩;rw[ae];simp-implicitDefEqProofs only[go_sem,zS,↓reduceIte,Za,Zb,Zc,reduceCtorEq,zU,zV,Zf,Zg,Zh,Zi,Zd,Ze,zF,ek,HG];rw[hQ];exact⟨rfl,Lo.trans K8⟩
 |none=>
  rw[HH]at hs;obtain⟨rfl,ZD⟩:=hs;obtain⟨RL,σ,hR,hok⟩:=ZD.g;rcases hL with⟨_,rfl⟩|⟨v',L,_,p1,_⟩
  case inr=>exact(xF hE (by omega) HH p1).elim
  simp-implicitDefEqProofs only[go_sem,zS,↓reduceIte,Za,Zb,Zc,reduceCtorEq,zU,zV,Zf,Zg,Zh,Zi,Zd,Ze,zF,Option.isSome_none,g3];refine(c.dfc el v3 _ A6 (hT.ag Lo) (gr A6 K7) (by omega)).mono ?_;rintro r A7 ⟨hD,K8⟩;rcases hD with⟨h,_⟩|⟨v',D,_,hD,rfl,O7,_⟩
  ·exact absurd T6 h
  obtain⟨hne,hH⟩:=Hz hE (by omega) HH hD;have E8:decide (((gP D el.length).length:Int)>0)=true:=decide_eq_true (by
   have:=List.length_pos_iff.2 hne;omega)
  have S7:aG A7 v' (iN (gP D el.length)):=O7.sl;obtain⟨a7,c7,rfl,_⟩:=S7.mk;rw[ae];simp-implicitDefEqProofs only[go_sem,zS,↓reduceIte,Za,Zb,Zc,reduceCtorEq,zU,zV,Zf,Zg,Zh,Zi,Zd,Ze,zF,E8];refine⟨rfl,?_⟩;refine aF fun A8 b1 e10 z10 B1 K9=>?_;have eB:Bl A8 b1 [.int .u8 3,.int .i64 0,.slice none 0 0,.slice a7 (iN (gP D el.length)).length c7]:=B1;have hG8:=uT.ek eB (S7.ag K9 (by simp));have aaR:=K7.trans K8;simp-implicitDefEqProofs only[go_sem,zS,↓reduceIte,Za,Zb,Zc,reduceCtorEq,zU,zV,Zf,Zg,Zh,Zi,Zd,Ze,zF];refine bB [.slice (some ⟨b1,0,none⟩) 1 1] (by simp-implicitDefEqProofs only[go_sem,zS,↓reduceIte,Za,Zb,Zc,reduceCtorEq,ae,zU,zV,Zf,Zg,Zh,Zi,Zd,Ze]) rfl rfl rfl fun A9 b18 e11 z11 Q1 jF=>?_;have T7:=(K8.trans K9).trans jF;have Qo:=Lo.trans T7;have B89:=T7.bl Tr (by simp);have aac:=T7.bl aab (by simp);have hP9:=hP6.aj T7;have hR9:=(hR.aj K6).aj (K7.trans T7);simp-implicitDefEqProofs only[go_sem,zS,↓reduceIte,Za,Zb,Zc,reduceCtorEq,zU,zV,Zf,Zg,Zh,Zi,Zd,Ze,zF,B89.aI 5 rfl,aac.aI 1 rfl];refine(c.BR _ _ RL σ _ rv A9 (hT.ag Qo) hP9 G SB.u hR9 hok).mono ?_;rintro y OK ⟨rfl,Dd⟩;have aad:=Dd.bl B89 (by simp);have T8:=Dd.bl Q1 (by simp);rw[ae];simp-implicitDefEqProofs only[go_sem,zS,↓reduceIte,Za,Zb,Zc,reduceCtorEq,zU,zV,Zf,Zg,Zh,Zi,Zd,Ze,zF,aad.aI 5 rfl,T8.aI 1 rfl];refine(c.BR _ _ _ (fun _=>List.replicate el.length 0) _ _ OK (hT.ag (Qo.trans Dd)) (hP9.aj Dd) G SB.u ((hG8.aj jF).aj Dd) (iC.ek SB.u hH)).mono ?_;rintro y A11 ⟨rfl,gz⟩;rw[ae];simp-implicitDefEqProofs only[go_sem,zS,↓reduceIte,Za,Zb,Zc,reduceCtorEq,zU,zV,Zf,Zg,Zh,Zi,Zd,Ze,zF,e11,xS];rw[hQ];exact⟨rfl,(Qo.trans Dd).trans gz⟩
end Go.Mg
