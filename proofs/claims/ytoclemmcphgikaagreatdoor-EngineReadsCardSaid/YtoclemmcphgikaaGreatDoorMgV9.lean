/- Lemmas of ours. No conditions. -/
import Derived.Test.YtoclemmcphgikaaGreatDoorMgV5
open Nat renaming reduceEqDiff→Za,reduceAdd→Zb,reduceMul→Zc,reduceLeDiff→Zd,reduceLT→Ze
open Int renaming reduceBEq→Zf,reduceBNe→Zg,reduceLE→Zh,reduceLT→Zi
set_option linter.all false
set_option maxRecDepth 100000
namespace Go.Mg
open Go Go.RowKit
def F7 (ι:aG):S:=
 (kY [kG 20 0 3,kD 21 20,kL 22 21,kU 23 (.cm .gtr .i64 (.t 22) (.c (.int .i64 10))),kF 24 23,kT 25 24 false (.fa 1 (.v 3)),kT 26 24 false (.ld (.t 25)),kT 27 24 false (.m (.lenl (.t 26))),kT 28 24 false (.fa 2 (.v 3)),kT 29 24 false (.ld (.t 28)),kT 30 24 false (.m (.lenl (.t 29))),kT 31 24 false (.fa 3 (.v 3)),kT 32 24 false (.ld (.t 31)),kT 33 24 false (.m (.lenl (.t 32))),kT 34 24 false (.fa 4 (.v 3)),kT 35 24 false (.ld (.t 34)),kT 36 24 false (.m (.lenl (.t 35))),kT 37 24 false (.m (.mxs (.t 27) [.t 30,.t 33,.t 36])),kT 38 24 false (.cm .gtr .i64 (.t 37) (.c (.int .i64 20))),kV 39 (.pick (.t 24) (.c (.bool true)) (.t 38))] (.ite (.v 39) (kY [kC 6 (.int .i64 3)] .ret) .skip))
def F8 (ι:aG):S:=
 (kY [kG 49 0 8,kD 50 49,.e (.t 51) (.call (ι.f 75) [.t 50]),kU 52 (.not (.t 51)),kB 48 52] (.ite (.v 48) (kY [kC 6 (.int .i64 9)] .ret) (kY [kG 54 0 3,kD 55 54,kA 56 7,kU 57 (.m (.sls 2 (.t 55) .none (.some (.t 56)))),kU 58 (.m (.mkf (ι.f 305) [] [.v 8])),.e (.t 59) (.call (ι.f 302) [.t 57,.t 58]),kB 53 59] (.ite (.v 53) (kY [kC 6 (.int .i64 5)] .ret) (kY [kG 61 1 8,kD 62 61,kU 63 (.cm .lss .i64 (.t 62) (.c (.int .i64 1))),kF 64 63,kT 65 64 false (.fa 1 (.v 8)),kT 66 64 false (.ld (.t 65)),kS 67 64 false 1,kT 68 64 false (.cm .gtr .i64 (.t 66) (.t 67)),kU 69 (.pick (.t 64) (.c (.bool true)) (.t 68)),kF 70 69,kT 71 70 false (.m (.ldn 1 (.v 5))),kT 72 70 false (.fa 1 (.v 8)),kT 73 70 false (.ld (.t 72)),.ge (.t 74) (.t 70) false (.call (ι.f 130) [.t 71,.t 73]),kU 75 (.pick (.t 70) (.c (.bool true)) (.t 74)),kB 60 75] (.ite (.v 60) (kY [kC 6 (.int .i64 10)] .ret) .skip))))))
def F9 (ι:aG):S:=
 (.seq (.dr (kW 105 (.fa 0 (.v 13)) (kW 106 (.ld (.t 105)) (kW 107 (.cm .lss .i64 (.t 106) (.c (.int .i64 1))) (kW 108 (.mv (.t 107)) (.px (.t 109) (.some (.t 108,false)) (.fa 0 (.v 13)) (.px (.t 110) (.some (.t 108,false)) (.ld (.t 109)) (.px (.t 111) (.some (.t 108,false)) (.cm .gtr .i64 (.t 110) (.c (.int .i64 10))) (kW 112 (.pick (.t 108) (.c (.bool true)) (.t 111)) (kW 113 (.mv (.t 112)) (.px (.t 114) (.some (.t 113,false)) (.fa 1 (.v 13)) (.px (.t 115) (.some (.t 113,false)) (.m (.ldn 1 (.t 114))) (.wcons (.t 116) (.some (.t 113,false)) (.call (ι.f 133) [.t 115]) (kW 117 (.pick (.t 113) (.c (.bool true)) (.t 116)) (kW 118 (.mv (.t 117)) (.px (.t 119) (.some (.t 118,false)) (.fa 1 (.v 13)) (.px (.t 120) (.some (.t 118,false)) (.m (.ldn 1 (.t 119))) (.px (.t 121) (.some (.t 118,false)) (.fa 0 (.v 3)) (.px (.t 122) (.some (.t 118,false)) (.ld (.t 121)) (.px (.t 123) (.some (.t 118,false)) (.m (.lenl (.t 122))) (.wcons (.t 124) (.some (.t 118,false)) (.call (ι.f 306) [.t 123]) (.wcons (.t 125) (.some (.t 118,false)) (.call (ι.f 141) [.t 120,.t 124]) (.px (.t 126) (.some (.t 118,false)) (.not (.t 125)) (kX 127 (.pick (.t 118) (.c (.bool true)) (.t 126)) .done)) .wnil) .wnil)))))))) .wnil))))))))))))) (.ite (.v 127) (kY [kC 6 (.int .i64 2)] .ret) .skip))
def Ga (ι:aG):S:=
 kY [kR 3 (ι.t 296) 0,kR 5 (ι.t 128) 2,kC 6 (.int .i64 0)] (.seq (kY [kG 16 0 3,kD 17 16,kL 18 17,kV 19 (.cm .eql .i64 (.t 18) (.c (.int .i64 0)))] (.ite (.v 19) (kY [kC 6 (.int .i64 4)] .ret) .skip)) (.seq (F7 ι) (.seq (kY [kG 40 0 3,kV 41 (.ld (.t 40)),kO 42 41,kC 43 (.int .i64 0)] (.blk 0 (.loop (kY [kH 44 43 42] (.seq (.ite (.v 44) .skip (.exit 0)) (.seq (.blk 1 (kY [kA 45 43,kK 46 2 41 43,kN 47 2 46,.e (.v 8) (.new (ι.t 297) #[.string ⟨#[]⟩,.int .i64 0]),kB 7 45,.e .no (.stn 2 (.v 8) (.t 47))] (.blk 2 (F8 ι)))) (.reg [ke 76 43,kB 43 76]))))))) (.seq (kY [kG 77 1 3,kD 78 77,kG 79 2 3,kD 80 79,kG 81 3 3,kD 82 81,.e (.v 83) (.aV (ι.t 235) 1 3 [.t 78,.t 80,.t 82]),kO 84 83,kC 85 (.int .i64 0)] (.blk 3 (.loop (kY [kH 86 85 84] (.seq (.ite (.v 86) .skip (.exit 3)) (.seq (.blk 4 (kY [kK 87 1 83 85,kD 88 87,kB 10 88] (kY [kA 89 10,kG 90 0 3,kD 91 90,kL 92 91,.e (.t 93) (.call (ι.f 284) [.t 89,.t 92]),kB 11 93] (kY [kA 94 11,kV 95 (.cm .neq .i64 (.t 94) (.c (.int .i64 0)))] (.ite (.v 95) (kY [kA 96 11,kB 6 96] .ret) .skip))))) (.reg [ke 97 85,kB 85 97]))))))) (.seq (kY [kG 98 4 3,kV 99 (.ld (.t 98)),kO 100 99,kC 101 (.int .i64 0)] (.blk 5 (.loop (kY [kH 102 101 100] (.seq (.ite (.v 102) .skip (.exit 5)) (.seq (.blk 6 (kY [kK 103 2 99 101,kN 104 2 103,.e (.v 13) (.new (ι.t 298) #[.int .i64 0,kZ]),.e .no (.stn 2 (.v 13) (.t 104))] (F9 ι))) (.reg [ke 128 101,kB 101 128]))))))) (kY [kG 130 0 3,kD 131 130,kL 132 131,kG 133 1 3,kD 134 133,.e (.t 135) (.call (ι.f 201) [.t 132,.t 134]),kF 129 135,kQ 136 129 0,kQ 137 129 1,kF 14 136,kB 15 137] (kY [kA 138 15,kB 6 138] .ret)))))))
def Gb:List RV:=[.t 6]
structure Zx (P:Program) (ι:aG):Prop where
 va:vh P (ι.f 75)
 con:jj cj P (ι.f 302)
 c1:vi P (ι.f 305)
 has:eJ P (ι.f 130)
 em:gW P (ι.f 133)
 wi:iF P (ι.f 141)
 bel:jT P (ι.f 306)
 prs:qG P (ι.f 284)
 nw:uO P ι (ι.f 201)
variable {P:Program} {ι:aG} {f:Fr} {A:Hp} {b3 i n:Nat} {s r1 r2 r3 r4:Value} {m:UInt64} {Qb:Ex->Fr->Hp->Prop} {roles:Int} {p:Nat->Bool} {l:List tk}
theorem TY {b d a m:Value} {F:cf} {n0 n1 n2 n3 n4:Nat} (h3:f 3=.pointer (some ⟨b3,0,none⟩)) (B:Bl A b3 [s,b,d,a,m]) (i0:aq s) (i1:aq b) (i2:aq d) (i3:aq a) (i4:aq m) (l0:aU s=n0) (l1:aU b=n1) (l2:aU d=n2) (l3:aU a=n3) (l4:aU m=n4)
  (hT:(10<n0\/20<n1\/20<n2\/20<n3\/20<n4)->∀f',f' 6=.int .i64 3->Qb .r f' A) (hF:¬(10<n0\/20<n1\/20<n2\/20<n3\/20<n4)->Qb .n (bL f 39 (.bool false)) A):vc P (F7 ι) Qb f A:=by
 unfold F7 kF kC kD kG kL kT kU kV kY;have c0:cell A ⟨b3,0,none⟩=some s:=by rw[B.cell];rfl
 have c1:cell A ⟨b3,1,none⟩=some b:=by rw[B.cell];rfl
 have c2:cell A ⟨b3,2,none⟩=some d:=by rw[B.cell];rfl
 have c3:cell A ⟨b3,3,none⟩=some a:=by rw[B.cell];rfl
 have c4:cell A ⟨b3,4,none⟩=some m:=by rw[B.cell];rfl
 by_cases h10:(n0:Int)>10
 ·have d1:decide ((n0:Int)>10)=true:=decide_eq_true h10;simp only[go_sem,Za,Zb,ae,h3,c0,i0,l0,d1];exact hT (.inl (by omega)) _ (by rfl)
 ·have d1:decide ((n0:Int)>10)=false:=decide_eq_false h10;obtain⟨mx,hmx⟩:∃mx,mx=WB (n1:Int) [(n2:Int),(n3:Int),(n4:Int)]:=⟨_,rfl⟩
  have TZ:mx>20↔(20<n1\/20<n2\/20<n3\/20<n4):=by
   rw[hmx];simp only[WB]
   split<;>split<;>split<;>omega
  simp only[WB]at hmx;have o2:∀v,v=d\/v=a\/v=m->isInt (.int .i64 (aU v:Int)):=fun _ _=>trivial
  by_cases hb:mx>20
  ·have d2:decide (mx>20)=true:=decide_eq_true hb;simp only[go_sem,Za,Zb,ae,h3,c0,c1,c2,c3,c4,i0,i1,i2,i3,i4,l0,l1,l2,l3,l4,d1,kindOf,<-hmx,d2];exact hT (by have:=TZ.1 hb;omega) _ (by rfl)
  ·have d2:decide (mx>20)=false:=decide_eq_false hb;simp only[go_sem,Za,Zb,ae,h3,c0,c1,c2,c3,c4,i0,i1,i2,i3,i4,l0,l1,l2,l3,l4,d1,kindOf,<-hmx,d2];exact hF (fun h=>hb (TZ.2 (by omega)))
theorem T0 (c:Zx P ι) {b5 b8:Nat} {x:wO} {st:List wO} {xv:Value} (h1:f 1=.int .i64 roles) (h3:f 3=.pointer (some ⟨b3,0,none⟩)) (h5:f 5=.pointer (some ⟨b5,0,none⟩)) (h7:f 7=.int .i64 (i:Int)) (h8:f 8=.pointer (some ⟨b8,0,none⟩))
  (B3:Bl A b3 [s,r1,r2,r3,r4]) (B5:Bl A b5 [xv]) (B8:Bl A b8 (cj x)) (hs:bk cj 2 A s st) (hi:i<st.length) (hl:st.length<=1000000) (hx:aQ A (.agg #[xv]) p)
  (hT:∀e f' A',qF roles p (st.take i) x=e->e≠0->f' 6=.int .i64 e->af (fun _=>False) A A'->Qb .r f' A') (hF:∀f' A',qF roles p (st.take i) x=0->af (fun _=>False) A A'->Qb .n f' A'):vc P (F8 ι) Qb f A:=by
 unfold F8 kA kB kF kC kD kG kS kT kU kY;have c8:cell A ⟨b8,0,none⟩=some (sV x.1):=by rw[B8.cell];rfl
 simp-implicitDefEqProofs only[go_sem,↓reduceIte,Za,Zb,Zc,reduceCtorEq,ae,h8,c8];refine(c.va x.1 A).mono ?_;rintro r A1 ⟨rfl,K1⟩;rw[ae]
 cases hv:cK x.1 with
 |false=>
  simp-implicitDefEqProofs only[go_sem,↓reduceIte,Za,Zb,Zc,reduceCtorEq,ae,Bool.not_false];exact hT 9 _ A1 (by unfold qF;rw[if_pos hv]) (by omega) (by rfl) K1
 |true=>
  have Xg:=K1.bl B3 (by simp);have B81:=K1.bl B8 (by simp);have hs1:=hs.aj K1;have c30:cell A1 ⟨b3,0,none⟩=some s:=by rw[Xg.cell];rfl
  have hS:=hs1.abA dD (n:=i) (by omega);obtain⟨va,vc,rfl,MW⟩:=hs1.mk;obtain⟨w,hw⟩:∃w,w=wL (.slice va st.length vc) 2 none (some (i:Int)):=⟨_,rfl⟩
  rw[<-hw]at hS;have St:Value.slice (if vc=0 then va else Option.map (fun x=>x) va) i vc=w:=by
   rw[hw,Ke];simp[nP,Cm,Addr.add]
  have ans:TT P cj (fun y:wO=>decide (y.1=x.1)) (st.take i) (ι.f 305) #[] #[.pointer (some ⟨b8,0,none⟩)] A1:=⟨c.c1.1,fun y _ A2 K2=>by
   have:=c.c1.2 y x b8 A2 (K2.bl B81 (by simp));simpa using this⟩
  simp-implicitDefEqProofs only[go_sem,↓reduceIte,Za,Zb,Zc,reduceCtorEq,ae,h3,h7,h8,c30,Bool.not_true];refine⟨by omega,?_⟩;rw[St];refine(c.con (st.take i) _ w _ _ _ A1 hS (by rw[List.length_take];omega) ans).mono ?_;rintro r A2 ⟨rfl,K2⟩;have dB:=K1.trans K2;rw[ae]
  cases ha:(st.take i).any fun y=>decide (y.1=x.1)with
  |true=>
   simp-implicitDefEqProofs only[go_sem,↓reduceIte,Za,Zb,Zc,reduceCtorEq,ae];exact hT 5 _ A2 (by unfold qF;rw[if_neg (by rw[hv];simp),if_pos ha]) (by omega) (by rfl) dB
  |false=>
   have B82:=dB.bl B8 (by simp);have Zy:=dB.bl B5 (by simp);have p1:cell A2 ⟨b8,1,none⟩=some (.int .i64 x.2):=by rw[B82.cell];rfl
   have hE:∀z,(if x.2<1\/roles<x.2\/bZ p x.2=true then(10:Int)else 0)=z->qF roles p (st.take i) x=z:=fun z h=>by
    unfold qF;rw[if_neg (by rw[hv];simp),if_neg (by rw[ha];simp)];exact h
   by_cases e1:x.2<1
   ·have d1:decide (x.2<1)=true:=decide_eq_true e1;simp-implicitDefEqProofs only[go_sem,↓reduceIte,Za,Zb,Zc,reduceCtorEq,ae,h8,p1,d1];exact hT 10 _ A2 (hE 10 (if_pos (.inl e1))) (by omega) (by rfl) dB
   ·have d1:decide (x.2<1)=false:=decide_eq_false e1
    by_cases e2:x.2>roles
    ·have d2:decide (x.2>roles)=true:=decide_eq_true e2;simp-implicitDefEqProofs only[go_sem,↓reduceIte,Za,Zb,Zc,reduceCtorEq,ae,h1,h8,p1,d1,d2];exact hT 10 _ A2 (hE 10 (if_pos (.inr (.inl e2)))) (by omega) (by rfl) dB
    ·have d2:decide (x.2>roles)=false:=decide_eq_false e2;simp-implicitDefEqProofs only[go_sem,↓reduceIte,Za,Zb,Zc,reduceCtorEq,ae,h1,h5,h8,p1,d1,d2,Zy.aM 1 rfl];refine(c.has p _ x.2 A2 (hx.aj dB)).mono ?_;rintro r A3 ⟨rfl,K3⟩;have gg:=dB.trans K3;rw[ae]
     cases hm:bZ p x.2 with
     |true=>
      simp-implicitDefEqProofs only[go_sem,↓reduceIte,Za,Zb,Zc,reduceCtorEq,ae];exact hT 10 _ A3 (hE 10 (if_pos (.inr (.inr hm)))) (by omega) (by rfl) gg
     |false=>
      simp-implicitDefEqProofs only[go_sem,↓reduceIte,Za,Zb,Zc,reduceCtorEq,ae];exact hF _ A3 (hE 0 (if_neg (by rw[hm];rintro(h|h|h);exact e1 h;exact e2 h;cases h))) gg
theorem jk (hn:n<=64):(∀j,bt m j=true->decide (j<n)=true)↔m.toNat<2^n:=by
 unfold bt
 constructor
 ·intro h;apply Classical.byContradiction;intro jN;have jN:2^n<=m.toNat:=by omega
  obtain⟨i,hi,hb⟩:=Nat.exists_ge_and_testBit_of_ge_two_pow jN;have:=h i hb;simp at this;omega
 ·intro h j hj;apply decide_eq_true;apply Classical.byContradiction;intro jN;have:m.toNat<2^j:=Nat.lt_of_lt_of_le h (Nat.pow_le_pow_right (by omega) (by omega));rw[Nat.testBit_lt_two_pow this]at hj;cases hj
theorem zR:(∀n,bt m n=false)↔m=0:=by
 constructor
 ·intro h;exact qn fun k _=>by rw[h k,dS]
 ·rintro rfl n;exact dS n
theorem T3 (c:Zx P ι) {bm:Nat} {x:MV} {y:tk} (h3:f 3=.pointer (some ⟨b3,0,none⟩)) (h13:f 13=.pointer (some ⟨bm,0,none⟩))
  (B3:Bl A b3 [s,r1,r2,r3,r4]) (Bm:Bl A bm (cH x)) (i0:aq s) (l0:aU s=n) (hn:n<=10) (hx:x.1=y.1) (hm:aQ A (.agg #[hZ x]) (bt y.2))
  (hT:∀f' A',pd n y=2->f' 6=.int .i64 2->af (fun _=>False) A A'->Qb .r f' A') (hF:∀f' A',pd n y=0->af (fun _=>False) A A'->Qb .n f' A'):vc P (F9 ι) Qb f A:=by
 unfold F9 kC kW kX kY;have m0:cell A ⟨bm,0,none⟩=some (.int .i64 y.1):=by rw[Bm.cell,<-hx];rfl
 have mS:aR A ⟨bm,1,none⟩ 1=some #[hZ x]:=by
  have:=Bm.aR (o:=1) (n:=1) (by simp[cH]);simpa[cH]using this
 have c30:cell A ⟨b3,0,none⟩=some s:=by rw[B3.cell];rfl
 have hE:∀z,(if y.1<1\/10<y.1\/y.2=0\/2^n<=y.2.toNat then(2:Int)else 0)=z->pd n y=z:=fun z h=>h;rw[jF];refine bo (fun _=>False) ?_
 by_cases e1:y.1<1
 ·have d1:decide (y.1<1)=true:=decide_eq_true e1;simp-implicitDefEqProofs only[go_sem,↓reduceIte,Za,Zb,Zc,reduceCtorEq,ae,h3,h13,m0,d1];exact hT _ A (hE 2 (if_pos (.inl e1))) (by rfl) (af.refl _ _)
 have d1:decide (y.1<1)=false:=decide_eq_false e1
 by_cases e2:y.1>10
 ·have d2:decide (y.1>10)=true:=decide_eq_true e2;simp-implicitDefEqProofs only[go_sem,↓reduceIte,Za,Zb,Zc,reduceCtorEq,ae,h3,h13,m0,d1,d2];exact hT _ A (hE 2 (if_pos (.inr (.inl e2)))) (by rfl) (af.refl _ _)
 have d2:decide (y.1>10)=false:=decide_eq_false e2;obtain⟨u,W,hu,hV⟩:=hm;simp only[Value.agg.injEq,Array.mk.injEq,List.cons.injEq,and_true]at hu;have hm:aQ A (.agg #[hZ x]) (bt y.2):=⟨u,W,by rw[hu],hV⟩
 rw[<-hu]at hV;simp-implicitDefEqProofs only[go_sem,↓reduceIte,Za,Zb,Zc,reduceCtorEq,ae,h3,h13,m0,aC,mS,d1,d2];refine(c.em _ _ W A hV).mono ?_;rintro r A1 ⟨rfl,K1⟩
 by_cases e3:W=[]
 ·have d3:decide (W=[])=true:=decide_eq_true e3;simp-implicitDefEqProofs only[go_sem,↓reduceIte,Za,Zb,Zc,reduceCtorEq,ae,h13,d3];have h0:y.2=0:=zR.1 (hV.sU.1 e3);exact⟨K1,hT _ A1 (hE 2 (if_pos (.inr (.inr (.inl h0))))) (by rfl) K1⟩
 ·have d3:decide (W=[])=false:=decide_eq_false e3;have h0:¬y.2=0:=fun h=>e3 (hV.sU.2 (zR.2 h));have Bm1:=K1.bl Bm (by simp);have Xg:=K1.bl B3 (by simp);have mS1:aR A1 ⟨bm,1,none⟩ 1=some #[hZ x]:=by
   have:=Bm1.aR (o:=1) (n:=1) (by simp[cH]);simpa[cH]using this
  have c31:cell A1 ⟨b3,0,none⟩=some s:=by rw[Xg.cell];rfl
  simp-implicitDefEqProofs only[go_sem,↓reduceIte,Za,Zb,Zc,reduceCtorEq,ae,h3,h13,d3,aC,mS1,c31,i0,l0];refine⟨K1,(c.bel n A1 (by omega)).mono ?_⟩;rintro r A2 ⟨S2,K2,_⟩;simp-implicitDefEqProofs only[go_sem,↓reduceIte,Za,Zb,Zc,reduceCtorEq,ae];refine⟨K2,(c.wi _ _ _ _ A2 ((hm.aj K1).aj K2) S2).mono ?_⟩;rintro r A3 ⟨⟨q,rfl,hq⟩,K3⟩;have gg:=(K1.trans K2).trans K3;rw[jk (by omega)]at hq
  cases q with
  |true=>
   have hlt:=hq.1 rfl;simp-implicitDefEqProofs only[go_sem,↓reduceIte,Za,Zb,Zc,reduceCtorEq,ae,Bool.not_true];exact⟨K3,hF _ A3 (hE 0 (if_neg (by rintro(h|h|h|h);exact e1 h;exact e2 h;exact h0 h;omega))) gg⟩
  |false=>
   have jN:¬y.2.toNat<2^n:=fun h=>by have:=hq.2 h;cases this
   simp-implicitDefEqProofs only[go_sem,↓reduceIte,Za,Zb,Zc,reduceCtorEq,ae,Bool.not_false];exact⟨K3,hT _ A3 (hE 2 (if_pos (.inr (.inr (.inr (by omega)))))) (by rfl) gg⟩
theorem Pk {l:List wO} {k:Nat} (hk:k<=l.length) {e:Int} (h:zw roles p l k=e) (he:e≠0):zw roles p l l.length=e:=by
 rw[OG (by rw[h];exact he) _ hk,h]
theorem Zz (hi:i<l.length) (h:sF n (l.take i)=0):sF n (l.take (i+1))=pd n l[i]:=by
 have app:∀(a b:List tk),sF n (a++b)=gZ (sF n a) (sF n b):=fun a b=>by
  induction a with
  |nil=>rfl
  |cons x a ih=>
   simp only[List.cons_append,sF,ih];unfold gZ;split<;>rfl
 rw[List.take_succ_eq_append_getElem hi,app,h,fc];simp only[sF,gZ]
 split<;>simp_all
theorem Pl (h:sF n (l.take i)≠0):sF n l=sF n (l.take i):=by
 have app:∀(a b:List tk),sF n (a++b)=gZ (sF n a) (sF n b):=fun a b=>by
  induction a with
  |nil=>rfl
  |cons x a ih=>
   simp only[List.cons_append,sF,ih];unfold gZ;split<;>rfl
 conv=>lhs;rw[<-List.take_append_drop i l]
 rw[app,qE _ h]
def pn (P:Program) (ι:aG) (k:FuncId):Prop:=∀(F:cf) (v x:Value) (roles:Int) (p:Nat->Bool) (H:Hp),bg ι H->bU H v F->aQ H x p->an P k #[v,.int .i64 roles,x] H fun r H'=>r=.int .i64 (eU F roles p)/\af (fun _=>False) H H'
theorem T4 {k:FuncId} (hk:al P k (Ga ι) Gb 3) (c:Zx P ι):pn P ι k:=by
 intro F v x roles p H hT hv hx;obtain⟨s,b,d,a,m,ms,rfl,h1,h2,h3,h4,h5,h6⟩:=hv;obtain⟨ba,bc,rfl,_⟩:=h2.mk;obtain⟨da,dc,rfl,_⟩:=h3.mk;obtain⟨aa,ac,rfl,_⟩:=h4.mk;have hx0:=hx;obtain⟨xv,XW,rfl,hXV⟩:=hx;refine qI fun Q hQ=>?_;refine ah hk (args:=[_,_,_]) (by simp) ?_;unfold Ga Gb kA kB kF kC kD ke kG kH kK kL kN kO kQ kR kV kY kZ;simp only[go_sem,Za,Zb];refine ay fun H1 b3 e1 z1 B1 K1=>?_;have bQ:=B1;simp only[Value.cells]at bQ;simp only[go_sem,Za,Zb];refine ay fun H2 b5 e2 z2 B2 K2=>?_;have km:Bl H2 b5 [xv]:=B2;have Lr:=K2.bl bQ (by simp);have dB:=K1.trans K2;have c0:cell H2 ⟨b3,0,none⟩=some s:=by rw[Lr.cell];rfl
 obtain⟨n,hn⟩:∃n,n=F.st.length:=⟨_,rfl⟩
 by_cases wW:F.st=[]
 ·have d0:((F.st.length:Int)==0)=true:=by rw[wW];rfl
  simp only[go_sem,Za,Zb,ae,c0,h1.aq,h1.len,d0];rw[hQ];exact⟨by unfold eU;rw[if_pos wW],dB⟩
 have hnz:0<F.st.length:=List.length_pos_iff.2 wW;have d0:((F.st.length:Int)==0)=false:=by simp only[beq_eq_false_iff_ne,ne_eq];omega
 have nQ:ms.length=F.mo.length:=h6.len;simp only[go_sem,Za,Zb,ae,c0,h1.aq,h1.len,d0];refine TY (F:=F) (by rfl) Lr h1.aq h2.aq h3.aq h4.aq h5.aq h1.len h2.len h3.len h4.len (h5.len.trans nQ) (fun TZ f' hf6=>?_) (fun hsm=>?_)
 ·simp only[go_sem,Za,Zb,ae,hf6];rw[hQ];exact⟨by unfold eU;rw[if_neg wW,if_pos (show iQ F from TZ)],dB⟩
 have Xh:∀z,gZ (zw roles p F.st F.st.length) (gZ (iG F.st.length F.be) (gZ (iG F.st.length F.di) (gZ (iG F.st.length F.sa) (gZ (sF F.st.length F.mo) (Dz (jf F.be))))))=z->eU F roles p=z:=fun z h=>by
  unfold eU;rw[if_neg wW,if_neg (show¬iQ F from hsm)];exact h
 simp only[go_sem,Za,Zb,ae,c0,h1.aq,h1.len];refine aD F.st.length [44,8,7,48,6,53,60,43] rfl rfl (by omega) (by rfl) (by rfl) (fun i g A=>zw roles p F.st i=0/\af (fun _=>False) H2 A) ⟨rfl,af.refl _ _⟩ ?_ ?_
 ·rintro i g A hi gi gn ⟨hz,KA⟩;simp only[go_sem,Za,Zb,ae]at gi gn;have hA:=(h1.aj dB).aj KA;obtain⟨pb,po,pc,gz,nz,hld⟩:=hA.elem dD hi;obtain⟨y,hy⟩:∃y,y=F.st[i]:=⟨_,rfl⟩
  rw[<-hy]at hld;have cU:aR A ⟨pb,po+i*2,none⟩ 2=some #[sV y.1,.int .i64 y.2]:=hld;have hgd:F.st.getD i ([],0)=y:=by rw[List.getD_eq_getElem?_getD,List.getElem?_eq_getElem hi,hy];rfl
  have hsu:zw roles p F.st (i+1)=qF roles p (F.st.take i) y:=by rw[zw,hz,fc,hgd]
  simp only[go_sem,Za,Zb,gi,gz,ak,aC,cU];refine⟨by omega,?_⟩;refine ef [sV y.1,.int .i64 y.2] (.int .i64 (i:Int)) rfl (by rfl) (by rfl) rfl rfl rfl fun A1 b8 e8 z8 B8 K8=>?_;have Xe:=KA.trans K8;simp only[go_sem,Za,Zb,ae];rw[gz]at Lr h1;refine T0 c (i:=i) (x:=y) (st:=F.st) (roles:=roles) (by rfl) (by rfl) (by rfl) (by rfl) (by rfl) (Xe.bl Lr (by simp)) (Xe.bl km (by simp)) B8 ((h1.aj dB).aj Xe) hi (by have:=hsm;omega) ((hx0.aj dB).aj Xe) (fun e f' A' he hne xF wP=>?_) (fun f' A' he wP=>?_)
  ·simp only[go_sem,Za,Zb,ae,xF];rw[hQ];have:=Pk (k:=i+1) (l:=F.st) (by omega) (hsu.trans he) hne;exact⟨by rw[Xh e (by rw[this,qE _ hne])],dB.trans (Xe.trans wP)⟩
  ·simp only[go_sem,Za,Zb,ae];exact⟨by rw[hsu,he],Xe.trans wP⟩
 ·rintro g A gi ⟨hz,KA⟩;have Jo:=dB.trans KA;have B3A:=KA.bl Lr (by simp);have c1:cell A ⟨b3,1,none⟩=some (.slice ba F.be.length bc):=by rw[B3A.cell];rfl
  have c2:cell A ⟨b3,2,none⟩=some (.slice da F.di.length dc):=by rw[B3A.cell];rfl
  have c3:cell A ⟨b3,3,none⟩=some (.slice aa F.sa.length ac):=by rw[B3A.cell];rfl
  obtain⟨us,hus⟩:∃us:List Value,us=[.slice ba F.be.length bc,.slice da F.di.length dc,.slice aa F.sa.length ac]:=⟨_,rfl⟩
  obtain⟨ls,Y0⟩:∃ls:List (List fV),ls=[F.be,F.di,F.sa]:=⟨_,rfl⟩
  have hsl:∀j<3,ql H (us.getD j undef) (ls.getD j [])/\(ls.getD j []).length<=20:=fun j hj=>by
   rw[hus,Y0];have:j=0\/j=1\/j=2:=by omega
   rcases this with rfl|rfl|rfl
   ·exact⟨h2,by show F.be.length<=20;omega⟩
   ·exact⟨h3,by show F.di.length<=20;omega⟩
   ·exact⟨h4,by show F.sa.length<=20;omega⟩
  have hl3:us.length=3:=by rw[hus];rfl
  obtain⟨pF,hpF⟩:∃pF:Nat->Int,∀j,pF j=(match j with|0=>0|1=>iG F.st.length F.be|2=>gZ (iG F.st.length F.be) (iG F.st.length F.di)|_=>gZ (iG F.st.length F.be) (gZ (iG F.st.length F.di) (iG F.st.length F.sa))):=⟨_,fun _=>rfl⟩
  have Ls:∀j<3,pF j=0->pF (j+1)=iG F.st.length (ls.getD j []):=fun j hj h0=>by
   rw[hpF]at h0⊢;rw[Y0];have:j=0\/j=1\/j=2:=by omega
   rcases this with rfl|rfl|rfl
   ·rfl
   ·simp only at h0⊢;rw[h0];rfl
   ·simp only at h0⊢;obtain⟨e1,e2⟩:=jQ.1 h0;rw[e1,e2];rfl
  have ZA:∀j<3,∀e,pF (j+1)=e->e≠0->eU F roles p=e:=fun j hj e he hne=>Xh e (by
   rw[hz,fc];rw[hpF]at he;have:j=0\/j=1\/j=2:=by omega
   rcases this with rfl|rfl|rfl
   ·simp only at he;rw[he,qE _ hne]
   ·simp only at he;unfold gZ at he⊢
    split at he
    ·next h=>rw[if_pos h,he,if_neg hne]
    ·next h=>rw[if_neg h];exact he
   ·simp only at he;unfold gZ at he⊢
    split at he
    ·next h=>
     rw[if_pos h]
     split at he
     ·next h'=>rw[if_pos h',he,if_neg hne]
     ·next h'=>rw[if_neg h'];exact he
    ·next h=>rw[if_neg h];exact he)
  simp only[go_sem,Za,Zb,c1,c2,c3];refine aF fun A1 b83 e3 z3 B83 K83=>?_;have aeB:Bl A1 b83 us:=by rw[hus];exact B83
  have K01:=Jo.trans K83;have K21:=KA.trans K83;clear hus B83 Y0;simp only[go_sem,Za,Zb,ae];refine aD 3 [86,10,11,6,95,85] rfl rfl (by omega) (by rfl) (by rfl) (fun j g X=>pF j=0/\af (fun _=>False) A1 X) ⟨(hpF 0).trans rfl,af.refl _ _⟩ ?_ ?_
  ·rintro j g2 X hj gi gn ⟨hpj,KX⟩;simp only[go_sem,Za,Zb,ae]at gi gn;obtain⟨zT,Cr⟩:=hsl j hj;have kh:=K01.trans KX;have IP:cell X ⟨b83,j,none⟩=some (us.getD j undef):=by
    rw[(KX.bl aeB (by simp)).cell,List.getElem?_eq_getElem (by omega),List.getD_eq_getElem?_getD,List.getElem?_eq_getElem (by omega)];rfl
   have cs0:cell X ⟨b3,0,none⟩=some s:=by rw[((K21.trans KX).bl Lr (by simp)).cell];rfl
   simp only[go_sem,Za,Zb,ae,gi,ak,IP,cs0,h1.aq,h1.len];refine⟨by omega,(c.prs F.st.length (ls.getD j []) _ X (zT.aj kh) (by omega) (by omega)).mono ?_⟩;rintro r X1 ⟨rfl,DE⟩;rw[ae]
   by_cases hne:iG F.st.length (ls.getD j [])=0
   ·have dn:((iG F.st.length (ls.getD j []))!=0)=false:=by rw[hne];rfl
    simp only[go_sem,Za,Zb,ae,dn];exact⟨by rw[Ls j hj hpj];exact hne,KX.trans DE⟩
   ·have dn:((iG F.st.length (ls.getD j []))!=0)=true:=bne_iff_ne.2 hne;simp only[go_sem,Za,Zb,ae,dn];rw[hQ];exact⟨by rw[ZA j hj _ (Ls j hj hpj) hne],kh.trans DE⟩
  ·rintro g2 X gi ⟨hp3,KX⟩;have Lt:=hpF 3;rw[hp3]at Lt;have Lt:gZ (iG F.st.length F.be) (gZ (iG F.st.length F.di) (iG F.st.length F.sa))=0:=Lt.symm;obtain⟨pb0,Lt⟩:=jQ.1 Lt;obtain⟨pd0,pa0⟩:=jQ.1 Lt;have kh:=K01.trans KX;have K2X:=K21.trans KX;have B3X:=K2X.bl Lr (by simp);have c4:cell X ⟨b3,4,none⟩=some m:=by rw[B3X.cell];rfl
   simp only[go_sem,Za,Zb,ae,c4,h5.aq,h5.len];refine aD ms.length [102,13,127,6,101] rfl rfl (by omega) (by rfl) (by rfl) (fun i g Y=>sF F.st.length (F.mo.take i)=0/\af (fun _=>False) X Y) ⟨rfl,af.refl _ _⟩ ?_ ?_
   ·rintro i g3 Y hi gi gn ⟨hmz,KY⟩;simp only[go_sem,Za,Zb,ae]at gi gn;have T5:=kh.trans KY;have oh:i<F.mo.length:=by omega
    obtain⟨pb,po,pc,gz,nz,hld⟩:=(h5.aj T5).elem eP hi;obtain⟨y,hy⟩:∃y,y=ms[i]:=⟨_,rfl⟩
    obtain⟨w,hw⟩:∃w,w=F.mo[i]:=⟨_,rfl⟩
    obtain⟨r1,r2⟩:=h6.at_ i hi oh;rw[<-hy,<-hw]at r1 r2;rw[<-hy]at hld;have cU:aR Y ⟨pb,po+i*2,none⟩ 2=some #[.int .i64 y.1,hZ y]:=hld;have hms:=Zz oh hmz;rw[<-hw]at hms;simp only[go_sem,Za,Zb,gi,gz,ak,aC,cU];refine⟨by omega,?_⟩;refine aN [.int .i64 y.1,hZ y] (by rfl) rfl rfl rfl fun Y1 b13 e13 z13 kj lF=>?_;have abC:=T5.trans lF;simp only[go_sem,Za,Zb,ae];refine T3 c (n:=F.st.length) (x:=y) (y:=w) (by rfl) (by rfl) ((K2X.trans (KY.trans lF)).bl Lr (by simp)) kj h1.aq h1.len (by omega) r1 (r2.aj abC) (fun f' Y2 he xF KY2=>?_) (fun f' Y2 he KY2=>?_)
    ·simp only[go_sem,Za,Zb,ae,xF];rw[hQ];have h2:sF F.st.length (F.mo.take (i+1))=2:=hms.trans he;have h3:=Pl (l:=F.mo) (i:=i+1) (by rw[h2];decide);exact⟨by rw[Xh 2 (by rw[hz,fc,pb0,fc,pd0,fc,pa0,fc,h3,h2,qE _ (by decide)])],abC.trans KY2⟩
    ·simp only[go_sem,Za,Zb,ae];exact⟨hms.trans he,(KY.trans lF).trans KY2⟩
   ·rintro g3 Y gi ⟨hmz,KY⟩;rw[nQ,List.take_length]at hmz;have T5:=kh.trans KY;have B3Y:=(K2X.trans KY).bl Lr (by simp);have cy0:cell Y ⟨b3,0,none⟩=some s:=by rw[B3Y.cell];rfl
    have cy1:cell Y ⟨b3,1,none⟩=some (.slice ba F.be.length bc):=by rw[B3Y.cell];rfl
    simp only[go_sem,Za,Zb,ae,cy0,cy1,h1.aq,h1.len];refine(c.nw (F.st.length:Int) F.be _ Y (hT.ai T5) (h2.aj T5) (by omega)).mono ?_;rintro r Y1 ⟨hr,KY1,-⟩;have hok:∀q∈F.be,kg (F.st.length:Int) q:=fun q hq=>(OF.1 (OE.1 pb0 q hq)).1;rw[ae];rcases hr with⟨hb,_⟩|⟨_,hb,_⟩|⟨_,_,hA,rfl⟩|⟨_,_,hA,pv,rfl,_⟩
    ·unfold sE at hb;omega
    ·exact absurd hok hb
    ·simp only[go_sem,Za,Zb,ae];rw[hQ];exact⟨by rw[Xh 16 (by rw[hz,fc,pb0,fc,pd0,fc,pa0,fc,hmz,fc,OH hA])],T5.trans KY1⟩
    ·simp only[go_sem,Za,Zb,ae];rw[hQ];exact⟨by rw[Xh 0 (by rw[hz,fc,pb0,fc,pd0,fc,pa0,fc,hmz,fc,FH hA])],T5.trans KY1⟩
end Go.Mg
namespace Go.Mg
open Go Go.RowKit
def Gc (ι:aG):S:=
 (kY [kV 45 (.mv (.v 7))] (.ite (.v 45) (.reg [kA 46 5,kA 47 6,.e (.t 48) (.aV (ι.t 26) 1 1 [.t 47]),.e (.t 49) (.app false (ι.t 26) 1 8 #[.int .i64 0] (.t 46) (.t 48)),kB 5 49]) .skip))
def Gd (ι:aG):S:=
 (.reg [kA 28 7,kF 29 28,kT 30 29 true (.ia 2 1 (.v 9) (.c (.int .i64 1))),kT 31 29 true (.ld (.t 30)),kS 32 29 true 6,kT 33 29 true (.cm .eql .i64 (.t 31) (.t 32)),kT 34 29 true (.mv (.t 33)),kS 35 34 true 1,kT 36 34 true (.ia 2 1 (.v 9) (.c (.int .i64 0))),kT 37 34 true (.ld (.t 36)),kT 38 34 true (.sh .shr .u64 (.t 35) (.t 37)),kT 39 34 true (.dv .rem .u64 (.t 38) (.c (.int .u64 2))),kT 40 34 true (.cm .eql .u64 (.t 39) (.c (.int .u64 0))),kT 41 29 true (.pick (.t 34) (.t 40) (.c (.bool false))),kT 42 29 true (.not (.t 41)),kJ 43 29 42,kB 7 43])
def Ge (ι:aG):S:=
 kY [kR 2 (ι.t 289) 0,kC 4 (kZ)] (kY [kC 5 (kZ)] (.seq (kY [kG 10 0 2,kD 11 10,kV 12 (.m (.lenl (.t 11))),kC 13 (.int .i64 0)] (.blk 0 (.loop (kY [kH 14 13 12] (.seq (.ite (.v 14) .skip (.exit 0)) (.seq (.blk 1 (kY [kA 15 13,kB 6 15] (kY [kA 16 1,kA 17 6,kU 18 (.sh .shr .u64 (.t 16) (.t 17)),kU 19 (.dv .rem .u64 (.t 18) (.c (.int .u64 2))),kU 20 (.cm .eql .u64 (.t 19) (.c (.int .u64 0))),kB 7 20] (.seq (kY [kG 21 1 2,kV 22 (.ld (.t 21)),kO 23 22,kC 24 (.int .i64 0)] (.blk 2 (.loop (kY [kH 25 24 23] (.seq (.ite (.v 25) .skip (.exit 2)) (.seq (.blk 3 (kY [kK 26 2 22 24,kN 27 2 26,.e (.v 9) (.new (ι.t 194) #[.int .i64 0,.int .i64 0]),.e .no (.stn 2 (.v 9) (.t 27))] (Gd ι))) (.reg [ke 44 24,kB 24 44]))))))) (Gc ι))))) (.reg [ke 50 13,kB 13 50]))))))) (kY [kA 51 5,kB 4 51] .ret)))
def Gf:List RV:=[.t 4]
theorem vk (x:UInt64) (i:Nat):((((x.toNat:Int)/2^i).tmod 2)==0)=!bt x i:=by
 have h:=zG x i;have e:((x.toNat:Int)/2^i)=((x.toNat/2^i:Nat):Int):=by simp
 have e2:(((x.toNat/2^i:Nat):Int)).tmod 2=((x.toNat/2^i % 2:Nat):Int):=cg _ 2;rw[e,e2]at h⊢;rw[<-h];have:x.toNat/2^i % 2<2:=Nat.mod_lt _ (by omega);rw[Bool.eq_iff_iff];simp only[beq_iff_eq,Bool.not_eq_true',beq_eq_false_iff_ne,ne_eq];omega
variable {P:Program} {ι:aG} {f:Fr} {A:Hp} {rd:Bool} {Qb:Ex->Fr->Hp->Prop}
theorem T6 {C i:Nat} {lv:Value} {L:List Nat} (h5:f 5=lv) (h6:f 6=.int .i64 (i:Int)) (h7:f 7=.bool rd) (hL:L.length<=1000) (O:bq A lv (iN L)) (o:∀q,ax lv q->C<=q) (hC:C<=A.size)
  (hK:∀v' f' A',f' 5=v'->bq A' v' (iN (L++if rd=true then[i]else[]))->(∀q,ax v' q->C<=q)->af (fun q=>C<=q) A A'->Qb .n f' A'):vc P (Gc ι) Qb f A:=by
 unfold Gc kA kB kV kY
 cases rd with
 |true=>
  simp only[go_sem,Za,Zb,h5,h6,h7];refine aF fun A2 b2 e2 z2 B2 K2=>?_;have km:Bl A2 b2 (iN [i]):=B2;simp only[go_sem,Za,Zb,ae];refine jK (m:=iN [i]) C (O.ai K2 (by simp)) o (by omega) (aO.bl km 0 1 1 (by omega) (by simp[bE])) (iz _) rfl (by omega) (by rw[bE,bE];simp;omega) fun v' A3 O3 o3 K3=>?_;simp only[go_sem,Za,Zb,ae];exact hK v' _ A3 (by rfl) (by rw[if_pos rfl,zo];exact O3) o3 (K2.any.trans K3)
 |false=>
  simp only[go_sem,Za,Zb,ae,h5,h6,h7];exact hK lv _ A (by simp only[go_sem,Za,Zb,ae,h5]) (by simpa using O) o (af.refl _ _)
def Lu (d:Nat->Bool) (k:Nat) (x:fV):Bool:=decide (x.2=(k:Int))&&!bZ d x.1
theorem T7 {bp k n:Nat} {done:UInt64} {x:fV} (h1:f 1=.int .u64 done.toNat) (h6:f 6=.int .i64 (k:Int)) (h7:f 7=.bool rd) (h9:f 9=.pointer (some ⟨bp,0,none⟩)) (B:Bl A bp (pE x)) (hx:kg (n:Int) x) (hn:n<=10)
  (hK:Qb .n (bL f 7 (.bool (rd&&!Lu (bt done) k x))) A):vc P (Gd ι) Qb f A:=by
 unfold Gd kA kB kF kJ kS kT;have c0:cell A ⟨bp,0,none⟩=some (.int .i64 x.1):=by rw[B.cell];rfl
 have c1:cell A ⟨bp,1,none⟩=some (.int .i64 x.2):=by rw[B.cell];rfl
 obtain⟨h2,h3,h4,h5⟩:=hx
 cases rd with
 |false=>
  simp-implicitDefEqProofs only[go_sem,↓reduceIte,Za,Zb,Zc,reduceCtorEq,ae,Zf,Zg,Zh,Zi,Zd,Ze,h1,h6,h7,h9,c0,c1];exact hK
 |true=>
  by_cases e:x.2=(k:Int)
  ·have d1:(x.2==(k:Int))=true:=by simp[e]
   obtain⟨a,ha⟩:∃a:Nat,x.1=(a:Int):=⟨x.1.toNat,by omega⟩
   have hm:bZ (bt done) x.1=bt done a:=by rw[ha,jg (by omega)]
   rw[ha]at c0;simp-implicitDefEqProofs only[go_sem,↓reduceIte,Za,Zb,Zc,reduceCtorEq,ae,Zf,Zg,Zh,Zi,Zd,Ze,h1,h6,h7,h9,c0,c1,d1,ak,vk,Bool.not_not];have he:(true&&!Lu (bt done) k x)=bt done a:=by simp[Lu,e,hm]
   rw[he]at hK;exact⟨⟨by omega,by show((a:Nat):Int)<=((64:Nat):Int);omega⟩,by decide,hK⟩
  ·have d1:(x.2==(k:Int))=false:=by simp[e]
   simp-implicitDefEqProofs only[go_sem,↓reduceIte,Za,Zb,Zc,reduceCtorEq,ae,Zf,Zg,Zh,Zi,Zd,Ze,h1,h6,h7,h9,c0,c1,d1,Bool.not_false];have he:(true&&!Lu (bt done) k x)=true:=by simp[Lu,e]
   rw[he]at hK;exact hK
def vl (P:Program) (k:FuncId):Prop:=∀(F:cf) (v:Value) (done:UInt64) (H:Hp),c9 H v F->F.st.length<=10->F.be.length<=1000->(∀x∈F.be,kg (F.st.length:Int) x)->an P k #[v,.int .u64 done.toNat] H fun r H'=>bq H' r (iN (uU F.st.length F.be (bt done)))/\(∀q,ax r q->H.size<=q)/\af (fun _=>False) H H'
theorem xG (m:Nat) (be:List fV) (d:Nat->Bool):((List.range (m+1)).filter fun k=>!iH be d k&&!bZ d (k:Int))=((List.range m).filter fun k=>!iH be d k&&!bZ d (k:Int))++if(!iH be d m&&!bZ d (m:Int))=true then[m]else[]:=by
 rw[List.range_succ,List.filter_append]
 congr 1
 simp only[List.filter_cons,List.filter_nil]
theorem T8 {k:FuncId} (hk:al P k (Ge ι) Gf 2):vl P k:=by
 intro F v done H hv hn hbl hok;obtain⟨s,b,d,a,m,rfl,h1,h2,h3,h4,h5⟩:=hv;refine qI fun Q hQ=>?_;refine ah hk (args:=[_,_]) (by simp) ?_;unfold Ge Gf kA kB kC kD ke kG kH kK kN kO kR kU kV kY kZ;simp only[go_sem,Za,Zb];refine ay fun H1 b2 e1 z1 B1 K1=>?_;have bQ:Bl H1 b2 [s,b,d,a,m]:=B1;have c0:cell H1 ⟨b2,0,none⟩=some s:=by rw[bQ.cell];rfl
 obtain⟨LF,Pm⟩:∃LF:Nat->List Nat,∀i,LF i=(List.range i).filter fun k=>!iH F.be (bt done) k&&!bZ (bt done) (k:Int):=⟨_,fun _=>rfl⟩
 have YW:∀i,(LF i).length<=i:=fun i=>by
  rw[Pm];have:=List.length_filter_le (fun k=>!iH F.be (bt done) k&&!bZ (bt done) (k:Int)) (List.range i)
  rwa [List.length_range]at this
 simp only[go_sem,Za,Zb,ae,c0,h1.aq,h1.len];refine aD F.st.length [14,6,7,22,23,24,25,9,45,5,13] rfl rfl (by omega) (by rfl) (by rfl) (fun i g A=>∃lv,g 5=lv/\bq A lv (iN (LF i))/\(∀q,ax lv q->H1.size<=q)/\af (fun _=>False) H1 A) ⟨.slice none 0 0,by simp only[go_sem,Za,Zb,ae],by rw[Pm];exact bq.nil _,fun q h=>h.elim,af.refl _ _⟩ ?_ ?_
 ·rintro i g A hi gi gn ⟨lv,g5,OA,oA,KA⟩;simp only[go_sem,Za,Zb,ae]at gi gn g5;have sA:=KA.size;have c1:cell A ⟨b2,1,none⟩=some b:=by rw[(KA.bl bQ (by simp)).cell];rfl
  have OV:((i:Int)).toNat=i:=by omega
  simp only[go_sem,Za,Zb,ae,gi,c1,h2.aq,h2.len,OV,vk];refine⟨⟨by omega,by show((i:Nat):Int)<=((64:Nat):Int);omega⟩,by decide,?_⟩;refine aD F.be.length [25,9,7,24] rfl rfl (by omega) (by rfl) (by rfl) (fun j g2 X=>g2 7=.bool (!bt done i&&!((F.be.take j).any (Lu (bt done) i)))/\g2 5=lv/\af (fun _=>False) A X) ⟨by simp only[go_sem,Za,Zb,ae];simp,by simp only[go_sem,Za,Zb,ae,g5],af.refl _ _⟩ ?_ ?_
  ·rintro j g2 X hj gj gm ⟨g7,g52,KX⟩;simp only[go_sem,Za,Zb,ae]at gj gm g7 g52;have kh:=(K1.trans KA).trans KX;obtain⟨pb,po,pc,gz,nz,hld⟩:=(h2.aj kh).elem eH hj;obtain⟨x,hx⟩:∃x,x=F.be[j]:=⟨_,rfl⟩
   rw[<-hx]at hld;have cU:aR X ⟨pb,po+j*2,none⟩ 2=some #[.int .i64 x.1,.int .i64 x.2]:=hld;simp only[go_sem,Za,Zb,gj,gz,ak,aC,cU];refine⟨by omega,?_⟩;refine aN [.int .i64 x.1,.int .i64 x.2] (by rfl) rfl rfl rfl fun X1 b9 e9 z9 B9 K9=>?_;simp only[go_sem,Za,Zb,ae];refine T7 (bp:=b9) (k:=i) (n:=F.st.length) (done:=done) (x:=x) (rd:=!bt done i&&!((F.be.take j).any (Lu (bt done) i))) (by rfl) (by rfl) (by simp only[go_sem,Za,Zb,ae,g7]) (by rfl) B9 (hok x (by rw[hx];exact List.getElem_mem _)) hn ?_;simp only[go_sem,Za,Zb,ae,g52];refine⟨?_,KX.trans K9⟩;rw[cW hj,List.any_append,<-hx];simp only[List.any_cons,List.any_nil,Bool.or_false,Bool.not_or,Bool.and_assoc]
  ·rintro g2 X gj ⟨g7,g52,KX⟩;simp only[go_sem,Za,Zb,ae]at g7 g52;rw[List.take_length]at g7;simp only[go_sem,Za,Zb,ae];have hw:(!bt done i&&!(F.be.any (Lu (bt done) i)))=(!iH F.be (bt done) i&&!bZ (bt done) (i:Int)):=by
    rw[jg (by omega),Bool.and_comm];rfl
   rw[hw]at g7;refine T6 (i:=i) (rd:=!iH F.be (bt done) i&&!bZ (bt done) (i:Int)) (L:=LF i) (C:=H1.size) (by simp only[go_sem,Za,Zb,ae,g52]) (by rfl) (by simp only[go_sem,Za,Zb,ae,g7]) (by have:=YW i;omega) (OA.ai KX (by simp)) oA (by have:=KX.size;omega) fun v' f' A' xF O' o' K'=>?_;simp only[go_sem,Za,Zb,ae];refine⟨v',xF,?_,o',(KA.trans KX).trans' K' fun q hq h=>by omega⟩;rw[Pm,xG,<-Pm];exact O'
 ·rintro g A gi ⟨lv,g5,OA,oA,KA⟩;simp only[go_sem,Za,Zb,ae]at g5;simp only[go_sem,Za,Zb,ae,g5];rw[hQ];have:=K1.size;exact⟨by rw[Pm]at OA;exact OA,fun q hq=>by have:=oA q hq;omega,K1.trans KA⟩
theorem DJ (n:Nat) (be:List fV) (d:Nat->Bool):(uU n be d).length<=n:=by
 have:=List.length_filter_le (fun k=>!iH be d k&&!bZ d (k:Int)) (List.range n)
 rwa [List.length_range]at this
end Go.Mg
namespace Go.Mg
open Go Go.RowKit
end Go.Mg
namespace Go.Mg
open Go Go.RowKit
def zW (ι:aG):S:=
 kY [kR 1 (ι.t 296) 0,kC 2 (.bool false)] (kY [kM 3 5 1,kU 4 (.m (.bld #[kZ] [])),.e (.t 5) (.call (ι.f 307) [.t 3,.c (.int .i64 63),.t 4]),kU 6 (.cm .eql .i64 (.t 5) (.c (.int .i64 0))),kB 2 6] .ret)
def zX:List RV:=[.t 2]
def Gg (ι:aG):S:=
 kY [kR 3 (ι.t 194) 0,kC 4 (.bool false)] (kY [kP 5 2 1 3 1,kD 6 5,kU 7 (.ld (.v 1)),kU 8 (.cm .eql .i64 (.t 6) (.t 7)),kF 9 8,kT 10 9 true (.m (.ldn 1 (.v 2))),kT 11 9 true (.ia 2 1 (.v 3) (.c (.int .i64 0))),kT 12 9 true (.ld (.t 11)),.ge (.t 13) (.t 9) true (.call (ι.f 130) [.t 10,.t 12]),kT 14 9 true (.not (.t 13)),kJ 15 9 14,kB 4 15] .ret)
def Gh:List RV:=[.t 4]
def Gi (ι:aG):S:=
 kY [kR 2 (ι.t 296) 0,kR 3 (ι.t 128) 1,kC 4 (kZ)] (.seq (kY [kM 8 5 2,.e (.t 9) (.call (ι.f 312) [.t 8]),kV 10 (.not (.t 9))] (.ite (.v 10) (kY [kC 4 (kZ)] .ret) .skip)) (kY [kC 5 (kZ)] (.seq (kY [kG 11 0 2,kD 12 11,kV 13 (.m (.lenl (.t 12))),kC 14 (.int .i64 0)] (.blk 0 (.loop (kY [kH 15 14 13] (.seq (.ite (.v 15) .skip (.exit 0)) (.seq (.blk 1 (kY [kA 16 14,.e (.v 6) (.new (ι.t 26) #[.int .i64 0]),.e .no (.st (.v 6) (.t 16))] (kY [kG 17 1 2,kD 18 17,kU 19 (.m (.mkf (ι.f 313) [] [.v 6,.v 3])),.e (.t 20) (.call (ι.f 304) [.t 18,.t 19]),kB 7 20] (kY [kA 21 7,kU 22 (.not (.t 21)),kF 23 22,kT 24 23 true (.m (.ldn 1 (.v 3))),kT 25 23 true (.ld (.v 6)),.ge (.t 26) (.t 23) true (.call (ι.f 130) [.t 24,.t 25]),kT 27 23 true (.not (.t 26)),kV 28 (.pick (.t 23) (.t 27) (.c (.bool false)))] (.ite (.v 28) (.reg [kA 29 5,kU 30 (.ld (.v 6)),.e (.t 31) (.aV (ι.t 26) 1 1 [.t 30]),.e (.t 32) (.app false (ι.t 26) 1 8 #[.int .i64 0] (.t 29) (.t 31)),kB 5 32]) .skip))))) (.reg [ke 33 14,kB 14 33]))))))) (kY [kA 34 5,kB 4 34] .ret))))
def Gj:List RV:=[.t 4]
noncomputable def nD (F:cf):Bool:=decide (eU F 63 (fun _=>false)=0)
def fp (P:Program) (ι:aG) (k:FuncId):Prop:=∀(F:cf) (v:Value) (H:Hp),bg ι H->bU H v F->an P k #[v] H fun r H'=>r=.bool (nD F)/\af (fun _=>False) H H'
variable {P:Program} {ι:aG} {k:FuncId} {F:cf}
theorem Pn (hk:al P k (zW ι) zX 1) (hc:pn P ι (ι.f 307)):fp P ι k:=by
 intro F v H hT hv;have pV:=hv;obtain⟨s,b,d,a,m,ms,rfl,h1,h2,h3,h4,h5,h6⟩:=hv;refine ah hk (args:=[_]) (by simp) ?_;unfold zW zX kB kC kM kR kU kY kZ;simp only[go_sem,Za,Zb];refine ay fun H1 b1 e1 z1 B1 K1=>?_;have bQ:Bl H1 b1 [s,b,d,a,m]:=B1;simp only[go_sem,Za,Zb,ae,bQ.aM 5 rfl];refine(hc F _ _ 63 _ H1 (hT.ai K1) (pV.aj K1) (aQ.empty H1 none 0)).mono ?_;rintro r A ⟨rfl,K2⟩;rw[ae];have e:(eU F 63 (fun _=>false)==0)=nD F:=by
  unfold nD;rw[Bool.eq_iff_iff];simp
 simp only[go_sem,Za,Zb,ae,e];exact K1.trans K2
theorem tw:nD F=true↔eU F 63 (fun _=>false)=0:=by unfold nD;exact decide_eq_true_iff
theorem de (h:nD F=true):Good F:=(FI.1 (tw.1 h)).1
theorem Gk (r:dX):nD (dt r)=true:=tw.2 (TC r (by omega) fun _ _ _=>rfl)
def DK (P:Program) (k:FuncId):Prop:=bS P k=true/\∀(x:fV) (i b6 b3:Nat) (d:Nat->Bool) (dv:Value) (H:Hp),Bl H b6 [.int .i64 (i:Int)]->Bl H b3 [dv]->aQ H (.agg #[dv]) d->an P k #[.agg (pE x).toArray,.pointer (some ⟨b6,0,none⟩),.pointer (some ⟨b3,0,none⟩)] H fun r H'=>r=.bool (Lu d i x)/\af (fun _=>False) H H'
theorem T9 (hk:al P k (Gg ι) Gh 3) (hh:eJ P (ι.f 130)):DK P k:=by
 refine⟨hk.body,fun x i b6 b3 d dv H B6 B3 hd=>?_⟩;refine ah hk (args:=[_,_,_]) (by simp) ?_;unfold Gg Gh kB kF kC kD kJ kP kR kT kU kY;simp-implicitDefEqProofs only[go_sem,↓reduceIte,Za,Zb,Zc,reduceCtorEq,Zf,Zg,Zh,Zi,Zd,Ze];refine ay fun H1 b1 e1 z1 B1 K1=>?_;have bQ:Bl H1 b1 (pE x):=B1;have c0:cell H1 ⟨b1,0,none⟩=some (.int .i64 x.1):=by rw[bQ.cell];rfl
 have c1:cell H1 ⟨b1,1,none⟩=some (.int .i64 x.2):=by rw[bQ.cell];rfl
 have c6:cell H1 ⟨b6,0,none⟩=some (.int .i64 (i:Int)):=by rw[(K1.bl B6 (by simp)).cell];rfl
 have Xg:=K1.bl B3 (by simp)
 by_cases e:x.2=(i:Int)
 ·have d1:(x.2==(i:Int))=true:=by simp[e]
  simp-implicitDefEqProofs only[go_sem,↓reduceIte,Za,Zb,Zc,reduceCtorEq,ae,Zf,Zg,Zh,Zi,Zd,Ze,c0,c1,c6,d1,Xg.aM 1 rfl];refine(hh d _ x.1 H1 (hd.aj K1)).mono ?_;rintro r A ⟨rfl,K2⟩;rw[ae];simp-implicitDefEqProofs only[go_sem,↓reduceIte,Za,Zb,Zc,reduceCtorEq,ae,Zf,Zg,Zh,Zi,Zd,Ze];refine⟨?_,K1.trans K2⟩;simp[Lu,e]
 ·have d1:(x.2==(i:Int))=false:=by simp[e]
  simp-implicitDefEqProofs only[go_sem,↓reduceIte,Za,Zb,Zc,reduceCtorEq,ae,Zf,Zg,Zh,Zi,Zd,Ze,c0,c1,c6,d1];refine⟨?_,K1⟩;simp[Lu,e]
def vm (P:Program) (ι:aG) (k:FuncId):Prop:=∀(F:cf) (v x:Value) (d:Nat->Bool) (H:Hp),bg ι H->bU H v F->nD F=true->aQ H x d->an P k #[v,x] H fun r H'=>bq H' r (iN (uU F.st.length F.be d))/\(∀q,ax r q->H.size<=q)/\af (fun _=>False) H H'
structure aeC (P:Program) (ι:aG):Prop where
 gd:fp P ι (ι.f 312)
 r1:DK P (ι.f 313)
 con:jj pE P (ι.f 304)
 has:eJ P (ι.f 130)
theorem Ua (hk:al P k (Gi ι) Gj 2) (c:aeC P ι):vm P ι k:=by
 intro F v x d H hT hv hok hx;have pV:=hv;have hx0:=hx;obtain⟨dv,W,rfl,hV⟩:=hx;obtain⟨s,b,dd,a,m,ms,rfl,h1,h2,h3,h4,h5,h6⟩:=hv;have hG:=de hok;have qM:=hG.lim;unfold iQ at qM;refine qI fun Q hQ=>?_;refine ah hk (args:=[_,_]) (by simp) ?_;unfold Gi Gj kA kB kF kC kD ke kG kH kM kR kT kU kV kY kZ;simp-implicitDefEqProofs only[go_sem,↓reduceIte,Za,Zb,Zc,reduceCtorEq];refine ay fun H1 b2 e1 z1 B1 K1=>?_;have bQ:Bl H1 b2 [s,b,dd,a,m]:=B1;simp-implicitDefEqProofs only[go_sem,↓reduceIte,Za,Zb,Zc,reduceCtorEq];refine ay fun H2 b3 e2 z2 B2 K2=>?_;have km:Bl H2 b3 [dv]:=B2;have kx:=K2.bl bQ (by simp);have dB:=K1.trans K2;simp-implicitDefEqProofs only[go_sem,↓reduceIte,Za,Zb,Zc,reduceCtorEq,ae,kx.aM 5 rfl];refine(c.gd F _ H2 (hT.ai dB) (pV.aj dB)).mono ?_;rintro r H3 ⟨rfl,K3⟩;have gg:=dB.trans K3;have kj:=K3.bl kx (by simp);have xy:=K3.bl km (by simp);have c0:cell H3 ⟨b2,0,none⟩=some s:=by rw[kj.cell];rfl
 rw[ae,hok];obtain⟨LF,Pm⟩:∃LF:Nat->List Nat,∀i,LF i=(List.range i).filter fun k=>!iH F.be d k&&!bZ d (k:Int):=⟨_,fun _=>rfl⟩
 have YW:∀i,(LF i).length<=i:=fun i=>by
  rw[Pm];have:=List.length_filter_le (fun k=>!iH F.be d k&&!bZ d (k:Int)) (List.range i)
  rwa [List.length_range]at this
 simp-implicitDefEqProofs only[go_sem,↓reduceIte,Za,Zb,Zc,reduceCtorEq,ae,Bool.not_true,c0,h1.aq,h1.len];refine aD F.st.length [15,6,7,28,5,14] rfl rfl (by omega) (by rfl) (by rfl) (fun i g A=>∃lv,g 5=lv/\bq A lv (iN (LF i))/\(∀q,ax lv q->H3.size<=q)/\af (fun _=>False) H3 A) ⟨.slice none 0 0,by simp-implicitDefEqProofs only[go_sem,↓reduceIte,Za,Zb,Zc,reduceCtorEq,ae],by rw[Pm];exact bq.nil _,fun q h=>h.elim,af.refl _ _⟩ ?_ ?_
 ·rintro i g A hi gi gn ⟨lv,g5,OA,oA,KA⟩;simp-implicitDefEqProofs only[go_sem,↓reduceIte,Za,Zb,Zc,reduceCtorEq,ae]at gi gn g5;have sA:=KA.size;simp-implicitDefEqProofs only[go_sem,↓reduceIte,Za,Zb,Zc,reduceCtorEq,gi];refine Dx (.int .i64 (i:Int)) (by rfl) rfl fun A1 b6 e6 z6 B6 K6=>?_;have K31:=KA.trans K6;have Ov:=K31.bl kj (by simp);have Xf:=K31.bl xy (by simp);have c1:cell A1 ⟨b2,1,none⟩=some b:=by rw[Ov.cell];rfl
  have Jo:=gg.trans K31;have ans:TT P pE (Lu d i) F.be (ι.f 313) #[] #[.pointer (some ⟨b6,0,none⟩),.pointer (some ⟨b3,0,none⟩)] A1:=⟨c.r1.1,fun y _ A2 K2=>by
   have:=c.r1.2 y i b6 b3 d dv A2 (K2.bl B6 (by simp)) (K2.bl Xf (by simp)) (hx0.aj (Jo.trans K2));simpa using this⟩
  simp-implicitDefEqProofs only[go_sem,↓reduceIte,Za,Zb,Zc,reduceCtorEq,ae,c1];refine(c.con F.be _ b _ _ _ A1 (h2.aj Jo) (by omega) ans).mono ?_;rintro r A2 ⟨rfl,DL⟩;have sA2:=DL.size;have s6:=K6.size;rw[ae];have c6:cell A2 ⟨b6,0,none⟩=some (.int .i64 (i:Int)):=by rw[(DL.bl B6 (by simp)).cell];rfl
  have hw:F.be.any (Lu d i)=iH F.be d i:=rfl;rw[hw];have hsuc:∀rd,(!iH F.be d i&&!bZ d (i:Int))=rd->LF (i+1)=LF i++if rd=true then[i]else[]:=fun rd h=>by rw[Pm,xG,<-Pm,h]
  cases hwt:iH F.be d i with
  |true=>
   have hs:=hsuc false (by rw[hwt];rfl);simp-implicitDefEqProofs only[go_sem,↓reduceIte,Za,Zb,Zc,reduceCtorEq,ae,Bool.not_true,g5];exact⟨lv,rfl,by rw[hs];simpa using(OA.ai K6 (by simp)).ai DL (by simp),oA,K31.trans DL⟩
  |false=>
   have B22:=DL.bl Xf (by simp);simp-implicitDefEqProofs only[go_sem,↓reduceIte,Za,Zb,Zc,reduceCtorEq,ae,Bool.not_false,c6,B22.aM 1 rfl];refine(c.has d _ (i:Int) A2 (hx0.aj (Jo.trans DL))).mono ?_;rintro r A3 ⟨rfl,Xi⟩;have sA3:=Xi.size;have KK:=K6.trans (DL.trans Xi);have c63:cell A3 ⟨b6,0,none⟩=some (.int .i64 (i:Int)):=by rw[((DL.trans Xi).bl B6 (by simp)).cell];rfl
   rw[ae]
   cases hm:bZ d (i:Int)with
   |true=>
    have hs:=hsuc false (by rw[hm];simp);simp-implicitDefEqProofs only[go_sem,↓reduceIte,Za,Zb,Zc,reduceCtorEq,ae,Bool.not_true,g5];exact⟨lv,rfl,by rw[hs];simpa using OA.ai KK (by simp),oA,KA.trans KK⟩
   |false=>
    have hs:=hsuc true (by rw[hm,hwt];rfl);simp-implicitDefEqProofs only[go_sem,↓reduceIte,Za,Zb,Zc,reduceCtorEq,Bool.not_false,g5,c63];refine aF fun A4 b4 e4 z4 B4 K4=>?_;have rZ:Bl A4 b4 (iN [i]):=B4;have Cr:=YW i;simp-implicitDefEqProofs only[go_sem,↓reduceIte,Za,Zb,Zc,reduceCtorEq,ae];refine jK (m:=iN [i]) H3.size (OA.ai (KK.trans K4) (by simp)) oA (by have:=K4.size;omega) (aO.bl rZ 0 1 1 (by omega) (by simp[bE])) (iz _) rfl (by omega) (by rw[bE,bE];simp;omega) fun v' A5 O5 o5 K5=>?_;simp-implicitDefEqProofs only[go_sem,↓reduceIte,Za,Zb,Zc,reduceCtorEq,ae];exact⟨v',rfl,by rw[hs,if_pos rfl,zo];exact O5,o5,((KA.trans KK).trans K4).trans' K5 fun q hq h=>by omega⟩
 ·rintro g A gi ⟨lv,g5,OA,oA,KA⟩;simp-implicitDefEqProofs only[go_sem,↓reduceIte,Za,Zb,Zc,reduceCtorEq,ae]at g5;simp-implicitDefEqProofs only[go_sem,↓reduceIte,Za,Zb,Zc,reduceCtorEq,ae,g5];rw[hQ];have:=gg.size;exact⟨by rw[Pm]at OA;exact OA,fun q hq=>by have:=oA q hq;omega,gg.trans KA⟩
end Go.Mg
