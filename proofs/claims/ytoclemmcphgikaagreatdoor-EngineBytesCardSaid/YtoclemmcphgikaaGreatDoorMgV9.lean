/- Lemmas of ours. No conditions. -/
import Derived.Test.YtoclemmcphgikaaGreatDoorMgV5
open Bool renaming false→ZS,true→ZT
open Decidable renaming decide→ZQ
open Go renaming Value→ZR
open Go.IntKind renaming i64→ZY,u64→ZW
open Go.Value renaming agg→Z0,bool→Z5,int→Z8,pointer→Z7,slice→Z6
open Option renaming none→ZU,some→ZV
open Bool renaming eq_iff_iff→YU,not_false→ZB,not_true→ZE
open Classical renaming byContradiction→Zn
open List renaming cons_append→Xe,getD_eq_getElem?_getD→ZP,getElem?_eq_getElem→ZO,length_filter_le→YS,length_range→Xl,range→ZF,take_length→ZI
open Nat renaming reduceEqDiff→Za,reduceAdd→Zb,reduceMul→Zc,reduceLeDiff→Zd,reduceLT→Ze
open Int renaming reduceBEq→Zf,reduceBNe→Zg,reduceLE→Zh,reduceLT→Zi
set_option maxRecDepth 100000
set_option linter.all false
namespace Go.Mg
open Go Go.RowKit
def Hz (V:aH):S:=
 (kY [kG 20 0 3,kD 21 20,kL 22 21,kU 23 (.cm .gtr ZY (.t 22) (.c (Z8 ZY 10))),kF 24 23,kT 25 24 ZS (.fa 1 (.v 3)),kT 26 24 ZS (.ld (.t 25)),kT 27 24 ZS (.m (.lenl (.t 26))),kT 28 24 ZS (.fa 2 (.v 3)),kT 29 24 ZS (.ld (.t 28)),kT 30 24 ZS (.m (.lenl (.t 29))),kT 31 24 ZS (.fa 3 (.v 3)),kT 32 24 ZS (.ld (.t 31)),kT 33 24 ZS (.m (.lenl (.t 32))),kT 34 24 ZS (.fa 4 (.v 3)),kT 35 24 ZS (.ld (.t 34)),kT 36 24 ZS (.m (.lenl (.t 35))),kT 37 24 ZS (.m (.mxs (.t 27) [.t 30,.t 33,.t 36])),kT 38 24 ZS (.cm .gtr ZY (.t 37) (.c (Z8 ZY 20))),kV 39 (.pick (.t 24) (.c (Z5 ZT)) (.t 38))] (.ite (.v 39) (kY [kC 6 (Z8 ZY 3)] .ret) .skip))
def HH (V:aH):S:=
 (kY [kG 49 0 8,kD 50 49,kc 51 (kg (V.f 75) [.t 50]),kU 52 (.not (.t 51)),kB 48 52] (.ite (.v 48) (kY [kC 6 (Z8 ZY 9)] .ret) (kY [kG 54 0 3,kD 55 54,kA 56 7,kU 57 (.m (.sls 2 (.t 55) .none (.some (.t 56)))),kU 58 (.m (.mkf (V.f 305) [] [.v 8])),kc 59 (kg (V.f 302) [.t 57,.t 58]),kB 53 59] (.ite (.v 53) (kY [kC 6 (Z8 ZY 5)] .ret) (kY [kG 61 1 8,kD 62 61,kU 63 (.cm .lss ZY (.t 62) (.c (Z8 ZY 1))),kF 64 63,kT 65 64 ZS (.fa 1 (.v 8)),kT 66 64 ZS (.ld (.t 65)),kS 67 64 ZS 1,kT 68 64 ZS (.cm .gtr ZY (.t 66) (.t 67)),kU 69 (.pick (.t 64) (.c (Z5 ZT)) (.t 68)),kF 70 69,kT 71 70 ZS (.m (.ldn 1 (.v 5))),kT 72 70 ZS (.fa 1 (.v 8)),kT 73 70 ZS (.ld (.t 72)),.ge (.t 74) (.t 70) ZS (kg (V.f 130) [.t 71,.t 73]),kU 75 (.pick (.t 70) (.c (Z5 ZT)) (.t 74)),kB 60 75] (.ite (.v 60) (kY [kC 6 (Z8 ZY 10)] .ret) .skip))))))
def HJ (V:aH):S:=
 (.seq (.dr (kW 105 (.fa 0 (.v 13)) (kW 106 (.ld (.t 105)) (kW 107 (.cm .lss ZY (.t 106) (.c (Z8 ZY 1))) (kW 108 (.mv (.t 107)) (.px (.t 109) (.some (.t 108,ZS)) (.fa 0 (.v 13)) (.px (.t 110) (.some (.t 108,ZS)) (.ld (.t 109)) (.px (.t 111) (.some (.t 108,ZS)) (.cm .gtr ZY (.t 110) (.c (Z8 ZY 10))) (kW 112 (.pick (.t 108) (.c (Z5 ZT)) (.t 111)) (kW 113 (.mv (.t 112)) (.px (.t 114) (.some (.t 113,ZS)) (.fa 1 (.v 13)) (.px (.t 115) (.some (.t 113,ZS)) (.m (.ldn 1 (.t 114))) (.wcons (.t 116) (.some (.t 113,ZS)) (kg (V.f 133) [.t 115]) (kW 117 (.pick (.t 113) (.c (Z5 ZT)) (.t 116)) (kW 118 (.mv (.t 117)) (.px (.t 119) (.some (.t 118,ZS)) (.fa 1 (.v 13)) (.px (.t 120) (.some (.t 118,ZS)) (.m (.ldn 1 (.t 119))) (.px (.t 121) (.some (.t 118,ZS)) (.fa 0 (.v 3)) (.px (.t 122) (.some (.t 118,ZS)) (.ld (.t 121)) (.px (.t 123) (.some (.t 118,ZS)) (.m (.lenl (.t 122))) (.wcons (.t 124) (.some (.t 118,ZS)) (kg (V.f 306) [.t 123]) (.wcons (.t 125) (.some (.t 118,ZS)) (kg (V.f 141) [.t 120,.t 124]) (.px (.t 126) (.some (.t 118,ZS)) (.not (.t 125)) (kX 127 (.pick (.t 118) (.c (Z5 ZT)) (.t 126)) .done)) .wnil) .wnil)))))))) .wnil))))))))))))) (.ite (.v 127) (kY [kC 6 (Z8 ZY 2)] .ret) .skip))
def HO (V:aH):S:=
 kY [kR 3 (V.t 296) 0,kR 5 (V.t 128) 2,kC 6 (Z8 ZY 0)] (.seq (kY [kG 16 0 3,kD 17 16,kL 18 17,kV 19 (.cm .eql ZY (.t 18) (.c (Z8 ZY 0)))] (.ite (.v 19) (kY [kC 6 (Z8 ZY 4)] .ret) .skip)) (.seq (Hz V) (.seq (kY [kG 40 0 3,kV 41 (.ld (.t 40)),kO 42 41,kC 43 (Z8 ZY 0)] (.blk 0 (.loop (kY [kH 44 43 42] (.seq (.ite (.v 44) .skip (.exit 0)) (.seq (.blk 1 (kY [kA 45 43,kK 46 2 41 43,kN 47 2 46,kd 8 (.new (V.t 297) #[.string ⟨#[]⟩,Z8 ZY 0]),kB 7 45,kf (.stn 2 (.v 8) (.t 47))] (.blk 2 (HH V)))) (.reg [ke 76 43,kB 43 76]))))))) (.seq (kY [kG 77 1 3,kD 78 77,kG 79 2 3,kD 80 79,kG 81 3 3,kD 82 81,kd 83 (.aX (V.t 235) 1 3 [.t 78,.t 80,.t 82]),kO 84 83,kC 85 (Z8 ZY 0)] (.blk 3 (.loop (kY [kH 86 85 84] (.seq (.ite (.v 86) .skip (.exit 3)) (.seq (.blk 4 (kY [kK 87 1 83 85,kD 88 87,kB 10 88] (kY [kA 89 10,kG 90 0 3,kD 91 90,kL 92 91,kc 93 (kg (V.f 284) [.t 89,.t 92]),kB 11 93] (kY [kA 94 11,kV 95 (.cm .neq ZY (.t 94) (.c (Z8 ZY 0)))] (.ite (.v 95) (kY [kA 96 11,kB 6 96] .ret) .skip))))) (.reg [ke 97 85,kB 85 97]))))))) (.seq (kY [kG 98 4 3,kV 99 (.ld (.t 98)),kO 100 99,kC 101 (Z8 ZY 0)] (.blk 5 (.loop (kY [kH 102 101 100] (.seq (.ite (.v 102) .skip (.exit 5)) (.seq (.blk 6 (kY [kK 103 2 99 101,kN 104 2 103,kd 13 (.new (V.t 298) #[Z8 ZY 0,kZ]),kf (.stn 2 (.v 13) (.t 104))] (HJ V))) (.reg [ke 128 101,kB 101 128]))))))) (kY [kG 130 0 3,kD 131 130,kL 132 131,kG 133 1 3,kD 134 133,kc 135 (kg (V.f 201) [.t 132,.t 134]),kF 129 135,kQ 136 129 0,kQ 137 129 1,kF 14 136,kB 15 137] (kY [kA 138 15,kB 6 138] .ret)))))))
def HP:List RV:=[.t 6]
structure afO (P:Program) (V:aH):Prop where
 va:wH P (V.f 75)
 con:jM cB P (V.f 302)
 c1:wI P (V.f 305)
 has:fk P (V.f 130)
 em:iF P (V.f 133)
 wi:jh P (V.f 141)
 bel:lu P (V.f 306)
 prs:sk P (V.f 284)
 nw:we P V (V.f 201)
variable {P:Program} {V:aH} {f:Fr} {A:Hp} {b3 i n:Nat} {s r1 r2 r3 r4:ZR} {m:UInt64} {Qb:Ex->Fr->Hp->Prop} {roles:Int} {p:Nat->Bool} {l:List tW} {k:FuncId} {rd:Bool} {F:cf}
def abd {b d a m:ZR} {F:cf} {n0 n1 n2 n3 n4:Nat} (h3:f 3=Z7 (ZV ⟨b3,0,ZU⟩)) (B:Bl A b3 [s,b,d,a,m]) (i0:aq s) (i1:aq b) (i2:aq d) (i3:aq a) (i4:aq m) (l0:aW s=n0) (l1:aW b=n1) (l2:aW d=n2) (l3:aW a=n3) (l4:aW m=n4)
  (hT:(10<n0\/20<n1\/20<n2\/20<n3\/20<n4)->∀f',f' 6=Z8 ZY 3->Qb .r f' A) (hF:¬(10<n0\/20<n1\/20<n2\/20<n3\/20<n4)->Qb .n (bR f 39 (Z5 ZS)) A):vc P (Hz V) Qb f A:=by
 unfold Hz kF kC kD kG kL kT kU kV kY;have c0:cell A ⟨b3,0,ZU⟩=ZV s:=by rw[B.cell];rfl
 have c1:cell A ⟨b3,1,ZU⟩=ZV b:=by rw[B.cell];rfl
 have c2:cell A ⟨b3,2,ZU⟩=ZV d:=by rw[B.cell];rfl
 have c3:cell A ⟨b3,3,ZU⟩=ZV a:=by rw[B.cell];rfl
 have c4:cell A ⟨b3,4,ZU⟩=ZV m:=by rw[B.cell];rfl
 by_cases h10:(n0:Int)>10
 ·have d1:ZQ ((n0:Int)>10)=ZT:=decide_eq_true h10;simp only[go_sem,Za,Zb,ae,h3,c0,i0,l0,d1];exact hT (.inl (by omega)) _ (by rfl)
 ·have d1:ZQ ((n0:Int)>10)=ZS:=decide_eq_false h10;obtain⟨mx,hmx⟩:∃mx,mx=mxF (n1:Int) [(n2:Int),(n3:Int),(n4:Int)]:=⟨_,rfl⟩
  have abe:mx>20↔(20<n1\/20<n2\/20<n3\/20<n4):=by
   rw[hmx];simp only[mxF]
   split<;>split<;>split<;>omega
  simp only[mxF]at hmx;have o2:∀v,v=d\/v=a\/v=m->isInt (Z8 ZY (aW v:Int)):=fun _ _=>trivial
  by_cases hb:mx>20
  ·have d2:ZQ (mx>20)=ZT:=decide_eq_true hb;simp only[go_sem,Za,Zb,ae,h3,c0,c1,c2,c3,c4,i0,i1,i2,i3,i4,l0,l1,l2,l3,l4,d1,kindOf,<-hmx,d2];exact hT (by have:=abe.1 hb;omega) _ (by rfl)
  ·have d2:ZQ (mx>20)=ZS:=decide_eq_false hb;simp only[go_sem,Za,Zb,ae,h3,c0,c1,c2,c3,c4,i0,i1,i2,i3,i4,l0,l1,l2,l3,l4,d1,kindOf,<-hmx,d2];exact hF (fun h=>hb (abe.2 (by omega)))
def abf (c:afO P V) {b5 b8:Nat} {x:x9} {st:List x9} {xv:ZR} (h1:f 1=Z8 ZY roles) (h3:f 3=Z7 (ZV ⟨b3,0,ZU⟩)) (h5:f 5=Z7 (ZV ⟨b5,0,ZU⟩)) (h7:f 7=Z8 ZY (i:Int)) (h8:f 8=Z7 (ZV ⟨b8,0,ZU⟩))
  (B3:Bl A b3 [s,r1,r2,r3,r4]) (B5:Bl A b5 [xv]) (B8:Bl A b8 (cB x)) (hs:bk cB 2 A s st) (hi:i<st.length) (hl:st.length<=1000000) (hx:aR A (Z0 #[xv]) p)
  (hT:∀e f' A',si roles p (st.take i) x=e->e≠0->f' 6=Z8 ZY e->af (fun _=>False) A A'->Qb .r f' A') (hF:∀f' A',si roles p (st.take i) x=0->af (fun _=>False) A A'->Qb .n f' A'):vc P (HH V) Qb f A:=by
 unfold HH kA kB kF kC kD kG kS kT kU kc kg kY;have c8:cell A ⟨b8,0,ZU⟩=ZV (sV x.1):=by rw[B8.cell];rfl
 simp only[go_sem,Za,Zb,ae,h8,c8];refine(c.va x.1 A).mono ?_;rintro r A1 ⟨rfl,K1⟩;rw[ae]
 cases hv:cY x.1 with
 |false=>
  simp only[go_sem,Za,Zb,ae,ZB];exact hT 9 _ A1 (by unfold si;rw[if_pos hv]) (by omega) (by rfl) K1
 |true=>
  have B31:=K1.bl B3 id;have B81:=K1.bl B8 id;have hs1:=hs.aj K1;have c30:cell A1 ⟨b3,0,ZU⟩=ZV s:=by rw[B31.cell];rfl
  have hS:=hs1.ahP dE (n:=i) (by omega);obtain⟨va,vc,rfl,PK⟩:=hs1.mk;obtain⟨w,hw⟩:∃w,w=xW (.slice va st.length vc) 2 ZU (ZV (i:Int)):=⟨_,rfl⟩
  rw[<-hw]at hS;have hw':Value.slice (if vc=0 then va else Option.map (fun x=>x) va) i vc=w:=by
   rw[hw,MR];simp[pz,DM,Addr.add]
  have ans:aa8 P cB (fun y:x9=>ZQ (y.1=x.1)) (st.take i) (V.f 305) #[] #[Z7 (ZV ⟨b8,0,ZU⟩)] A1:=⟨c.c1.1,fun y _ A2 K2=>by
   have:=c.c1.2 y x b8 A2 (K2.bl B81 id);simpa using this⟩
  simp-implicitDefEqProofs only[go_sem,↓reduceIte,Za,Zb,Zc,reduceCtorEq,ae,h3,h7,h8,c30,ZE];refine⟨by omega,?_⟩;rw[hw'];refine(c.con (st.take i) _ w _ _ _ A1 hS (by rw[List.length_take];omega) ans).mono ?_;rintro r A2 ⟨rfl,K2⟩;have cS:=K1.trans K2;rw[ae]
  cases ha:(st.take i).any fun y=>ZQ (y.1=x.1)with
  |true=>
   simp only[go_sem,Za,Zb,ae];exact hT 5 _ A2 (by unfold si;rw[if_neg (by rw[hv];simp),if_pos ha]) (by omega) (by rfl) cS
  |false=>
   have B82:=cS.bl B8 (by simp);have B52:=cS.bl B5 (by simp);have p1:cell A2 ⟨b8,1,ZU⟩=ZV (Z8 ZY x.2):=by rw[B82.cell];rfl
   have hE:∀z,(if x.2<1\/roles<x.2\/cz p x.2=ZT then(10:Int)else 0)=z->si roles p (st.take i) x=z:=fun z h=>by
    unfold si;rw[if_neg (by rw[hv];simp),if_neg (by rw[ha];simp)];exact h
   by_cases e1:x.2<1
   ·have d1:ZQ (x.2<1)=ZT:=decide_eq_true e1;simp only[go_sem,Za,Zb,ae,h8,p1,d1];exact hT 10 _ A2 (hE 10 (if_pos (.inl e1))) (by omega) (by rfl) cS
   ·have d1:ZQ (x.2<1)=ZS:=decide_eq_false e1
    by_cases e2:x.2>roles
    ·have d2:ZQ (x.2>roles)=ZT:=decide_eq_true e2;simp only[go_sem,Za,Zb,ae,h1,h8,p1,d1,d2];exact hT 10 _ A2 (hE 10 (if_pos (.inr (.inl e2)))) (by omega) (by rfl) cS
    ·have d2:ZQ (x.2>roles)=ZS:=decide_eq_false e2;simp-implicitDefEqProofs only[go_sem,↓reduceIte,Za,Zb,Zc,reduceCtorEq,ae,h1,h5,h8,p1,d1,d2,B52.aL 1 rfl];refine(c.has p _ x.2 A2 (hx.aj cS)).mono ?_;rintro r A3 ⟨rfl,K3⟩;have eo:=cS.trans K3;rw[ae]
     cases hm:cz p x.2 with
     |true=>
      simp only[go_sem,Za,Zb,ae];exact hT 10 _ A3 (hE 10 (if_pos (.inr (.inr hm)))) (by omega) (by rfl) eo
     |false=>
      simp only[go_sem,Za,Zb,ae];exact hF _ A3 (hE 0 (if_neg (by rw[hm];rintro(h|h|h);exact e1 h;exact e2 h;cases h))) eo
def jN (hn:n<=64):(∀j,bt m j=ZT->ZQ (j<n)=ZT)↔m.toNat<2^n:=by
 unfold bt
 constructor
 ·intro h;apply Zn;intro ki;have ki:2^n<=m.toNat:=by omega
  obtain⟨i,hi,hb⟩:=Nat.exists_ge_and_testBit_of_ge_two_pow ki;have:=h i hb;simp at this;omega
 ·intro h j hj;apply decide_eq_true;apply Zn;intro ki;have:m.toNat<2^j:=Nat.lt_of_lt_of_le h (Nat.pow_le_pow_right (by omega) (by omega));rw[Nat.testBit_lt_two_pow this]at hj;cases hj
def Bo:(∀n,bt m n=ZS)↔m=0:=by
 constructor
 ·intro h;exact oP fun k _=>by rw[h k,eF]
 ·rintro rfl n;exact eF n
def abg (c:afO P V) {bm:Nat} {x:MV} {y:tW} (h3:f 3=Z7 (ZV ⟨b3,0,ZU⟩)) (h13:f 13=Z7 (ZV ⟨bm,0,ZU⟩))
  (B3:Bl A b3 [s,r1,r2,r3,r4]) (Bm:Bl A bm (cq x)) (i0:aq s) (l0:aW s=n) (hn:n<=10) (hx:x.1=y.1) (hm:aR A (Z0 #[gP x]) (bt y.2))
  (hT:∀f' A',pk n y=2->f' 6=Z8 ZY 2->af (fun _=>False) A A'->Qb .r f' A') (hF:∀f' A',pk n y=0->af (fun _=>False) A A'->Qb .n f' A'):vc P (HJ V) Qb f A:=by
 unfold HJ kC kW kX kg kY;have m0:cell A ⟨bm,0,ZU⟩=ZV (Z8 ZY y.1):=by rw[Bm.cell,<-hx];rfl
 have mS:aQ A ⟨bm,1,ZU⟩ 1=ZV #[gP x]:=by
  have:=Bm.aQ (o:=1) (n:=1) (by simp[cq]);simpa[cq]using this
 have c30:cell A ⟨b3,0,ZU⟩=ZV s:=by rw[B3.cell];rfl
 have hE:∀z,(if y.1<1\/10<y.1\/y.2=0\/2^n<=y.2.toNat then(2:Int)else 0)=z->pk n y=z:=fun z h=>h;rw[kx];refine aZ (fun _=>False) ?_
 by_cases e1:y.1<1
 ·have d1:ZQ (y.1<1)=ZT:=decide_eq_true e1;simp only[go_sem,Za,Zb,ae,h3,h13,m0,d1];exact hT _ A (hE 2 (if_pos (.inl e1))) (by rfl) (af.refl _ _)
 have d1:ZQ (y.1<1)=ZS:=decide_eq_false e1
 by_cases e2:y.1>10
 ·have d2:ZQ (y.1>10)=ZT:=decide_eq_true e2;simp only[go_sem,Za,Zb,ae,h3,h13,m0,d1,d2];exact hT _ A (hE 2 (if_pos (.inr (.inl e2)))) (by rfl) (af.refl _ _)
 have d2:ZQ (y.1>10)=ZS:=decide_eq_false e2;obtain⟨u,W,hu,hV⟩:=hm;simp only[Value.agg.injEq,Array.mk.injEq,List.cons.injEq,and_true]at hu;have hm:aR A (Z0 #[gP x]) (bt y.2):=⟨u,W,by rw[hu],hV⟩
 rw[<-hu]at hV;simp-implicitDefEqProofs only[go_sem,↓reduceIte,Za,Zb,Zc,reduceCtorEq,ae,h3,h13,m0,aC,mS,d1,d2];refine(c.em _ _ W A hV).mono ?_;rintro r A1 ⟨rfl,K1⟩
 by_cases e3:W=[]
 ·have d3:ZQ (W=[])=ZT:=decide_eq_true e3;simp only[go_sem,Za,Zb,ae,h13,d3];have h0:y.2=0:=Bo.1 (hV.uK.1 e3);exact⟨K1,hT _ A1 (hE 2 (if_pos (.inr (.inr (.inl h0))))) (by rfl) K1⟩
 ·have d3:ZQ (W=[])=ZS:=decide_eq_false e3;have h0:¬y.2=0:=fun h=>e3 (hV.uK.2 (Bo.2 h));have Bm1:=K1.bl Bm id;have B31:=K1.bl B3 id;have mS1:aQ A1 ⟨bm,1,ZU⟩ 1=ZV #[gP x]:=by
   have:=Bm1.aQ (o:=1) (n:=1) (by simp[cq]);simpa[cq]using this
  have c31:cell A1 ⟨b3,0,ZU⟩=ZV s:=by rw[B31.cell];rfl
  simp-implicitDefEqProofs only[go_sem,↓reduceIte,Za,Zb,Zc,reduceCtorEq,ae,h3,h13,d3,aC,mS1,c31,i0,l0];refine⟨K1,(c.bel n A1 (by omega)).mono ?_⟩;rintro r A2 ⟨S2,K2,_⟩;simp-implicitDefEqProofs only[go_sem,↓reduceIte,Za,Zb,Zc,reduceCtorEq,ae];refine⟨K2,(c.wi _ _ _ _ A2 ((hm.aj K1).aj K2) S2).mono ?_⟩;rintro r A3 ⟨⟨q,rfl,hq⟩,K3⟩;have eo:=(K1.trans K2).trans K3;rw[jN (by omega)]at hq
  cases q with
  |true=>
   have hlt:=hq.1 rfl;simp only[go_sem,Za,Zb,ae,ZE];exact⟨K3,hF _ A3 (hE 0 (if_neg (by rintro(h|h|h|h);exact e1 h;exact e2 h;exact h0 h;omega))) eo⟩
  |false=>
   have ki:¬y.2.toNat<2^n:=fun h=>by have:=hq.2 h;cases this
   simp only[go_sem,Za,Zb,ae,ZB];exact⟨K3,hT _ A3 (hE 2 (if_pos (.inr (.inr (.inr (by omega)))))) (by rfl) eo⟩
def Rj {l:List x9} {k:Nat} (hk:k<=l.length) {e:Int} (h:AT roles p l k=e) (he:e≠0):AT roles p l l.length=e:=by
 rw[Q2 (by rw[h];exact he) _ hk,h]
def afP (hi:i<l.length) (h:uw n (l.take i)=0):uw n (l.take (i+1))=pk n l[i]:=by
 have app:∀(a b:List tW),uw n (a++b)=iI (uw n a) (uw n b):=fun a b=>by
  induction a with
  |nil=>rfl
  |cons x a ih=>
   simp only[Xe,uw,ih];unfold iI;split<;>rfl
 rw[List.take_succ_eq_append_getElem hi,app,h,fN];simp only[uw,iI]
 split<;>simp_all
def Rk (h:uw n (l.take i)≠0):uw n l=uw n (l.take i):=by
 have app:∀(a b:List tW),uw n (a++b)=iI (uw n a) (uw n b):=fun a b=>by
  induction a with
  |nil=>rfl
  |cons x a ih=>
   simp only[Xe,uw,ih];unfold iI;split<;>rfl
 conv=>lhs;rw[<-List.take_append_drop i l]
 rw[app,sg _ h]
def qy (P:Program) (V:aH) (k:FuncId):Prop:=∀(F:cf) (v x:ZR) (roles:Int) (p:Nat->Bool) (H:Hp),bh V H->bZ H v F->aR H x p->an P k #[v,Z8 ZY roles,x] H fun r H'=>r=Z8 ZY (fF F roles p)/\af (fun _=>False) H H'
def abh (hk:ak P k (HO V) HP 3) (c:afO P V):qy P V k:=by
 intro F v x roles p H hT hv hx;obtain⟨s,b,d,a,m,ms,rfl,h1,h2,h3,h4,h5,h6⟩:=hv;obtain⟨ba,bc,rfl,_⟩:=h2.mk;obtain⟨da,dc,rfl,_⟩:=h3.mk;obtain⟨aa,ac,rfl,_⟩:=h4.mk;have hx0:=hx;obtain⟨xv,XW,rfl,hXV⟩:=hx;refine qI fun Q hQ=>?_;refine ah hk (args:=[_,_,_]) (by simp) ?_;unfold HO HP kA kB kF kC kD ke kG kH kK kL kN kO kQ kR kV kc kd kf kg kY kZ;simp only[go_sem,Za,Zb];refine ax fun H1 b3 e1 z1 B1 K1=>?_;have bL:=B1;simp only[Value.cells]at bL;simp only[go_sem,Za,Zb];refine ax fun H2 b5 e2 z2 B2 K2=>?_;have fG:Bl H2 b5 [xv]:=B2;have NV:=K2.bl bL id;have cS:=K1.trans K2;have c0:cell H2 ⟨b3,0,ZU⟩=ZV s:=by rw[NV.cell];rfl
 obtain⟨n,hn⟩:∃n,n=F.st.length:=⟨_,rfl⟩
 by_cases xX:F.st=[]
 ·have d0:((F.st.length:Int)==0)=ZT:=by rw[xX];rfl
  simp only[go_sem,Za,Zb,ae,c0,h1.aq,h1.len,d0];rw[hQ];exact⟨by unfold fF;rw[if_pos xX],cS⟩
 have hnz:0<F.st.length:=List.length_pos_iff.2 xX;have d0:((F.st.length:Int)==0)=ZS:=by simp only[beq_eq_false_iff_ne,ne_eq];omega
 have mb:ms.length=F.mo.length:=h6.len;simp only[go_sem,Za,Zb,ae,c0,h1.aq,h1.len,d0];refine abd (F:=F) (by rfl) NV h1.aq h2.aq h3.aq h4.aq h5.aq h1.len h2.len h3.len h4.len (h5.len.trans mb) (fun abe f' hf6=>?_) (fun hsm=>?_)
 ·simp only[go_sem,Za,Zb,ae,hf6];rw[hQ];exact⟨by unfold fF;rw[if_neg xX,if_pos (show iJ F from abe)],cS⟩
 have hEF:∀z,iI (AT roles p F.st F.st.length) (iI (ji F.st.length F.be) (iI (ji F.st.length F.di) (iI (ji F.st.length F.sa) (iI (uw F.st.length F.mo) (E0 (jK F.be))))))=z->fF F roles p=z:=fun z h=>by
  unfold fF;rw[if_neg xX,if_neg (show¬iJ F from hsm)];exact h
 simp only[go_sem,Za,Zb,ae,c0,h1.aq,h1.len];refine aF F.st.length [44,8,7,48,6,53,60,43] rfl rfl (by omega) (by rfl) (by rfl) (fun i g A=>AT roles p F.st i=0/\af (fun _=>False) H2 A) ⟨rfl,af.refl _ _⟩ ?_ ?_
 ·rintro i g A hi gi gn ⟨hz,KA⟩;simp only[go_sem,Za,Zb,ae]at gi gn;have hA:=(h1.aj cS).aj KA;obtain⟨pb,po,pc,fT,oz,hld⟩:=hA.elem dE hi;obtain⟨y,hy⟩:∃y,y=F.st[i]:=⟨_,rfl⟩
  rw[<-hy]at hld;have dm:aQ A ⟨pb,po+i*2,ZU⟩ 2=ZV #[sV y.1,Z8 ZY y.2]:=hld;have hgd:F.st.getD i ([],0)=y:=by rw[ZP,ZO hi,hy];rfl
  have hsu:AT roles p F.st (i+1)=si roles p (F.st.take i) y:=by rw[AT,hz,fN,hgd]
  simp only[go_sem,Za,Zb,gi,fT,al,aC,dm];refine⟨by omega,?_⟩;refine cG [sV y.1,Z8 ZY y.2] (Z8 ZY (i:Int)) rfl (by rfl) (by rfl) rfl rfl rfl fun A1 b8 e8 z8 B8 K8=>?_;have UG:=KA.trans K8;simp only[go_sem,Za,Zb,ae];rw[fT]at NV h1;refine abf c (i:=i) (x:=y) (st:=F.st) (roles:=roles) (by rfl) (by rfl) (by rfl) (by rfl) (by rfl) (UG.bl NV (by simp)) (UG.bl fG (by simp)) B8 ((h1.aj cS).aj UG) hi (by have:=hsm;omega) ((hx0.aj cS).aj UG) (fun e f' A' he hne yQ ya=>?_) (fun f' A' he ya=>?_)
  ·simp only[go_sem,Za,Zb,ae,yQ];rw[hQ];have:=Rj (k:=i+1) (l:=F.st) (by omega) (hsu.trans he) hne;exact⟨by rw[hEF e (by rw[this,sg _ hne])],cS.trans (UG.trans ya)⟩
  ·simp only[go_sem,Za,Zb,ae];exact⟨by rw[hsu,he],UG.trans ya⟩
 ·rintro g A gi ⟨hz,KA⟩;have HQ:=cS.trans KA;have B3A:=KA.bl NV id;have c1:cell A ⟨b3,1,ZU⟩=ZV (.slice ba F.be.length bc):=by rw[B3A.cell];rfl
  have c2:cell A ⟨b3,2,ZU⟩=ZV (.slice da F.di.length dc):=by rw[B3A.cell];rfl
  have c3:cell A ⟨b3,3,ZU⟩=ZV (.slice aa F.sa.length ac):=by rw[B3A.cell];rfl
  obtain⟨us,hus⟩:∃us:List ZR,us=[.slice ba F.be.length bc,.slice da F.di.length dc,.slice aa F.sa.length ac]:=⟨_,rfl⟩
  obtain⟨ls,hls⟩:∃ls:List (List fC),ls=[F.be,F.di,F.sa]:=⟨_,rfl⟩
  have hsl:∀j<3,rP H (us.getD j undef) (ls.getD j [])/\(ls.getD j []).length<=20:=fun j hj=>by
   rw[hus,hls];have:j=0\/j=1\/j=2:=by omega
   rcases this with rfl|rfl|rfl
   ·exact⟨h2,by show F.be.length<=20;omega⟩
   ·exact⟨h3,by show F.di.length<=20;omega⟩
   ·exact⟨h4,by show F.sa.length<=20;omega⟩
  have hl3:us.length=3:=by rw[hus];rfl
  obtain⟨pF,hpF⟩:∃pF:Nat->Int,∀j,pF j=(match j with|0=>0|1=>ji F.st.length F.be|2=>iI (ji F.st.length F.be) (ji F.st.length F.di)|_=>iI (ji F.st.length F.be) (iI (ji F.st.length F.di) (ji F.st.length F.sa))):=⟨_,fun _=>rfl⟩
  have NW:∀j<3,pF j=0->pF (j+1)=ji F.st.length (ls.getD j []):=fun j hj h0=>by
   rw[hpF]at h0⊢;rw[hls];have:j=0\/j=1\/j=2:=by omega
   rcases this with rfl|rfl|rfl
   ·rfl
   ·simp only at h0⊢;rw[h0];rfl
   ·simp only at h0⊢;obtain⟨e1,e2⟩:=lp.1 h0;rw[e1,e2];rfl
  have hpE:∀j<3,∀e,pF (j+1)=e->e≠0->fF F roles p=e:=fun j hj e he hne=>hEF e (by
   rw[hz,fN];rw[hpF]at he;have:j=0\/j=1\/j=2:=by omega
   rcases this with rfl|rfl|rfl
   ·simp only at he;rw[he,sg _ hne]
   ·simp only at he;unfold iI at he⊢
    split at he
    ·next h=>rw[if_pos h,he,if_neg hne]
    ·next h=>rw[if_neg h];exact he
   ·simp only at he;unfold iI at he⊢
    split at he
    ·next h=>
     rw[if_pos h]
     split at he
     ·next h'=>rw[if_pos h',he,if_neg hne]
     ·next h'=>rw[if_neg h'];exact he
    ·next h=>rw[if_neg h];exact he)
  simp only[go_sem,Za,Zb,c1,c2,c3];refine aG fun A1 b83 e3 z3 B83 K83=>?_;have akR:Bl A1 b83 us:=by rw[hus];exact B83
  have K01:=HQ.trans K83;have K21:=KA.trans K83;clear hus B83 hls;simp only[go_sem,Za,Zb,ae];refine aF 3 [86,10,11,6,95,85] rfl rfl (by omega) (by rfl) (by rfl) (fun j g X=>pF j=0/\af (fun _=>False) A1 X) ⟨(hpF 0).trans rfl,af.refl _ _⟩ ?_ ?_
  ·rintro j g2 X hj gi gn ⟨hpj,KX⟩;simp only[go_sem,Za,Zb,ae]at gi gn;obtain⟨Bq,DT⟩:=hsl j hj;have lP:=K01.trans KX;have Lm:cell X ⟨b83,j,ZU⟩=ZV (us.getD j undef):=by
    rw[(KX.bl akR id).cell,ZO (by omega),ZP,ZO (by omega)];rfl
   have cs0:cell X ⟨b3,0,ZU⟩=ZV s:=by rw[((K21.trans KX).bl NV (by simp)).cell];rfl
   simp only[go_sem,Za,Zb,ae,gi,al,Lm,cs0,h1.aq,h1.len];refine⟨by omega,(c.prs F.st.length (ls.getD j []) _ X (Bq.aj lP) (by omega) (by omega)).mono ?_⟩;rintro r X1 ⟨rfl,LK⟩;rw[ae]
   by_cases hne:ji F.st.length (ls.getD j [])=0
   ·have dn:((ji F.st.length (ls.getD j []))!=0)=ZS:=by rw[hne];rfl
    simp only[go_sem,Za,Zb,ae,dn];exact⟨by rw[NW j hj hpj];exact hne,KX.trans LK⟩
   ·have dn:((ji F.st.length (ls.getD j []))!=0)=ZT:=bne_iff_ne.2 hne;simp only[go_sem,Za,Zb,ae,dn];rw[hQ];exact⟨by rw[hpE j hj _ (NW j hj hpj) hne],lP.trans LK⟩
  ·rintro g2 X gi ⟨hp3,KX⟩;have NX:=hpF 3;rw[hp3]at NX;have NX:iI (ji F.st.length F.be) (iI (ji F.st.length F.di) (ji F.st.length F.sa))=0:=NX.symm;obtain⟨pb0,NX⟩:=lp.1 NX;obtain⟨pd0,pa0⟩:=lp.1 NX;have lP:=K01.trans KX;have K2X:=K21.trans KX;have B3X:=K2X.bl NV id;have c4:cell X ⟨b3,4,ZU⟩=ZV m:=by rw[B3X.cell];rfl
   simp only[go_sem,Za,Zb,ae,c4,h5.aq,h5.len];refine aF ms.length [102,13,127,6,101] rfl rfl (by omega) (by rfl) (by rfl) (fun i g Y=>uw F.st.length (F.mo.take i)=0/\af (fun _=>False) X Y) ⟨rfl,af.refl _ _⟩ ?_ ?_
   ·rintro i g3 Y hi gi gn ⟨hmz,KY⟩;simp only[go_sem,Za,Zb,ae]at gi gn;have KHY:=lP.trans KY;have iU:i<F.mo.length:=by omega
    obtain⟨pb,po,pc,fT,oz,hld⟩:=(h5.aj KHY).elem dG hi;obtain⟨y,hy⟩:∃y,y=ms[i]:=⟨_,rfl⟩
    obtain⟨w,hw⟩:∃w,w=F.mo[i]:=⟨_,rfl⟩
    obtain⟨r1,r2⟩:=h6.at_ i hi iU;rw[<-hy,<-hw]at r1 r2;rw[<-hy]at hld;have dm:aQ Y ⟨pb,po+i*2,ZU⟩ 2=ZV #[Z8 ZY y.1,gP y]:=hld;have hms:=afP iU hmz;rw[<-hw]at hms;simp only[go_sem,Za,Zb,gi,fT,al,aC,dm];refine⟨by omega,?_⟩;refine aO [Z8 ZY y.1,gP y] (by rfl) rfl rfl rfl fun Y1 b13 e13 z13 jv mD=>?_;have ahR:=KHY.trans mD;simp only[go_sem,Za,Zb,ae];refine abg c (n:=F.st.length) (x:=y) (y:=w) (by rfl) (by rfl) ((K2X.trans (KY.trans mD)).bl NV (by simp)) jv h1.aq h1.len (by omega) r1 (r2.aj ahR) (fun f' Y2 he yQ KY2=>?_) (fun f' Y2 he KY2=>?_)
    ·simp only[go_sem,Za,Zb,ae,yQ];rw[hQ];have h2:uw F.st.length (F.mo.take (i+1))=2:=hms.trans he;have h3:=Rk (l:=F.mo) (i:=i+1) (by rw[h2];decide);exact⟨by rw[hEF 2 (by rw[hz,fN,pb0,fN,pd0,fN,pa0,fN,h3,h2,sg _ (by decide)])],ahR.trans KY2⟩
    ·simp only[go_sem,Za,Zb,ae];exact⟨hms.trans he,(KY.trans mD).trans KY2⟩
   ·rintro g3 Y gi ⟨hmz,KY⟩;rw[mb,ZI]at hmz;have KHY:=lP.trans KY;have B3Y:=(K2X.trans KY).bl NV (by simp);have cy0:cell Y ⟨b3,0,ZU⟩=ZV s:=by rw[B3Y.cell];rfl
    have cy1:cell Y ⟨b3,1,ZU⟩=ZV (.slice ba F.be.length bc):=by rw[B3Y.cell];rfl
    simp only[go_sem,Za,Zb,ae,cy0,cy1,h1.aq,h1.len];refine(c.nw (F.st.length:Int) F.be _ Y (hT.ai KHY) (h2.aj KHY) (by omega)).mono ?_;rintro r Y1 ⟨hr,KY1,-⟩;have hok:∀q∈F.be,kj (F.st.length:Int) q:=fun q hq=>(Q1.1 (Q0.1 pb0 q hq)).1;rw[ae];rcases hr with⟨hb,_⟩|⟨_,hb,_⟩|⟨_,_,hA,rfl⟩|⟨_,_,hA,pv,rfl,_⟩
    ·unfold uu at hb;omega
    ·exact absurd hok hb
    ·simp only[go_sem,Za,Zb,ae];rw[hQ];exact⟨by rw[hEF 16 (by rw[hz,fN,pb0,fN,pd0,fN,pa0,fN,hmz,fN,Q3 hA])],KHY.trans KY1⟩
    ·simp only[go_sem,Za,Zb,ae];rw[hQ];exact⟨by rw[hEF 0 (by rw[hz,fN,pb0,fN,pd0,fN,pa0,fN,hmz,fN,G8 hA])],KHY.trans KY1⟩
def HR (V:aH):S:=
 (kY [kV 45 (.mv (.v 7))] (.ite (.v 45) (.reg [kA 46 5,kA 47 6,kc 48 (.aX (V.t 26) 1 1 [.t 47]),kc 49 (.app ZS (V.t 26) 1 8 #[Z8 ZY 0] (.t 46) (.t 48)),kB 5 49]) .skip))
def HS (V:aH):S:=
 (.reg [kA 28 7,kF 29 28,kT 30 29 ZT (.ia 2 1 (.v 9) (.c (Z8 ZY 1))),kT 31 29 ZT (.ld (.t 30)),kS 32 29 ZT 6,kT 33 29 ZT (.cm .eql ZY (.t 31) (.t 32)),kT 34 29 ZT (.mv (.t 33)),kS 35 34 ZT 1,kT 36 34 ZT (.ia 2 1 (.v 9) (.c (Z8 ZY 0))),kT 37 34 ZT (.ld (.t 36)),kT 38 34 ZT (.sh .shr ZW (.t 35) (.t 37)),kT 39 34 ZT (.dv .rem ZW (.t 38) (.c (Z8 ZW 2))),kT 40 34 ZT (.cm .eql ZW (.t 39) (.c (Z8 ZW 0))),kT 41 29 ZT (.pick (.t 34) (.t 40) (.c (Z5 ZS))),kT 42 29 ZT (.not (.t 41)),kJ 43 29 42,kB 7 43])
def HT (V:aH):S:=
 kY [kR 2 (V.t 289) 0,kC 4 (kZ)] (kY [kC 5 (kZ)] (.seq (kY [kG 10 0 2,kD 11 10,kV 12 (.m (.lenl (.t 11))),kC 13 (Z8 ZY 0)] (.blk 0 (.loop (kY [kH 14 13 12] (.seq (.ite (.v 14) .skip (.exit 0)) (.seq (.blk 1 (kY [kA 15 13,kB 6 15] (kY [kA 16 1,kA 17 6,kU 18 (.sh .shr ZW (.t 16) (.t 17)),kU 19 (.dv .rem ZW (.t 18) (.c (Z8 ZW 2))),kU 20 (.cm .eql ZW (.t 19) (.c (Z8 ZW 0))),kB 7 20] (.seq (kY [kG 21 1 2,kV 22 (.ld (.t 21)),kO 23 22,kC 24 (Z8 ZY 0)] (.blk 2 (.loop (kY [kH 25 24 23] (.seq (.ite (.v 25) .skip (.exit 2)) (.seq (.blk 3 (kY [kK 26 2 22 24,kN 27 2 26,kd 9 (.new (V.t 194) #[Z8 ZY 0,Z8 ZY 0]),kf (.stn 2 (.v 9) (.t 27))] (HS V))) (.reg [ke 44 24,kB 24 44]))))))) (HR V))))) (.reg [ke 50 13,kB 13 50]))))))) (kY [kA 51 5,kB 4 51] .ret)))
def HU:List RV:=[.t 4]
def qz (x:UInt64) (i:Nat):((((x.toNat:Int)/2^i).tmod 2)==0)=!bt x i:=by
 have h:=AZ x i;have e:((x.toNat:Int)/2^i)=((x.toNat/2^i:Nat):Int):=by simp
 have e2:(((x.toNat/2^i:Nat):Int)).tmod 2=((x.toNat/2^i % 2:Nat):Int):=ct _ 2;rw[e,e2]at h⊢;rw[<-h];have:x.toNat/2^i % 2<2:=Nat.mod_lt _ (by omega);rw[YU];simp only[beq_iff_eq,Bool.not_eq_true',beq_eq_false_iff_ne,ne_eq];omega
def abi {C:Nat} {lv:ZR} {L:List Nat} (h5:f 5=lv) (h6:f 6=Z8 ZY (i:Int)) (h7:f 7=.bool rd) (hL:L.length<=1000) (O:br A lv (iN L)) (o:∀q,ay lv q->C<=q) (hC:C<=A.size)
  (hK:∀v' f' A',f' 5=v'->br A' v' (iN (L++if rd=ZT then[i]else[]))->(∀q,ay v' q->C<=q)->af (fun q=>C<=q) A A'->Qb .n f' A'):vc P (HR V) Qb f A:=by
 unfold HR kA kB kV kc kY
 cases rd with
 |true=>
  simp only[go_sem,Za,Zb,h5,h6,h7];refine aG fun A2 b2 e2 z2 B2 K2=>?_;have fG:Bl A2 b2 (iN [i]):=B2;simp only[go_sem,Za,Zb,ae];refine ja (m:=iN [i]) C (O.ai K2 (by simp)) o (by omega) (aP.bl fG 0 1 1 (by omega) (by simp[bH])) (gT _) rfl (by omega) (by rw[bH,bH];simp;omega) fun v' A3 O3 o3 K3=>?_;simp only[go_sem,Za,Zb,ae];exact hK v' _ A3 (by rfl) (by rw[if_pos rfl,AO];exact O3) o3 (K2.any.trans K3)
 |false=>
  simp only[go_sem,Za,Zb,ae,h5,h6,h7];exact hK lv _ A (by simp only[go_sem,Za,Zb,ae,h5]) (by simpa using O) o (af.refl _ _)
def NY (d:Nat->Bool) (k:Nat) (x:fC):Bool:=ZQ (x.2=(k:Int))&&!cz d x.1
def abj {bp k:Nat} {done:UInt64} {x:fC} (h1:f 1=Z8 ZW done.toNat) (h6:f 6=Z8 ZY (k:Int)) (h7:f 7=.bool rd) (h9:f 9=Z7 (ZV ⟨bp,0,ZU⟩)) (B:Bl A bp (pE x)) (hx:kj (n:Int) x) (hn:n<=10)
  (hK:Qb .n (bR f 7 (.bool (rd&&!NY (bt done) k x))) A):vc P (HS V) Qb f A:=by
 unfold HS kA kB kF kJ kS kT;have c0:cell A ⟨bp,0,ZU⟩=ZV (Z8 ZY x.1):=by rw[B.cell];rfl
 have c1:cell A ⟨bp,1,ZU⟩=ZV (Z8 ZY x.2):=by rw[B.cell];rfl
 obtain⟨h2,h3,h4,h5⟩:=hx
 cases rd with
 |false=>
  simp only[go_sem,Za,Zb,ae,h1,h6,h7,h9,c0,c1];exact hK
 |true=>
  by_cases e:x.2=(k:Int)
  ·have d1:(x.2==(k:Int))=ZT:=by simp[e]
   obtain⟨a,ha⟩:∃a:Nat,x.1=(a:Int):=⟨x.1.toNat,by omega⟩
   have hm:cz (bt done) x.1=bt done a:=by rw[ha,gB (by omega)]
   rw[ha]at c0;simp-implicitDefEqProofs only[go_sem,↓reduceIte,Za,Zb,Zc,reduceCtorEq,ae,Zf,Zg,Zh,Zi,Zd,Ze,h1,h6,h7,h9,c0,c1,d1,al,qz,Bool.not_not];have he:(ZT&&!NY (bt done) k x)=bt done a:=by simp[NY,e,hm]
   rw[he]at hK;exact⟨⟨by omega,by show((a:Nat):Int)<=((64:Nat):Int);omega⟩,by decide,hK⟩
  ·have d1:(x.2==(k:Int))=ZS:=by simp[e]
   simp-implicitDefEqProofs only[go_sem,↓reduceIte,Za,Zb,Zc,reduceCtorEq,ae,Zf,Zg,Zh,Zi,Zd,Ze,h1,h6,h7,h9,c0,c1,d1,ZB];have he:(ZT&&!NY (bt done) k x)=ZT:=by simp[NY,e]
   rw[he]at hK;exact hK
def qA (P:Program) (k:FuncId):Prop:=∀(F:cf) (v:ZR) (done:UInt64) (H:Hp),dF H v F->F.st.length<=10->F.be.length<=1000->(∀x∈F.be,kj (F.st.length:Int) x)->an P k #[v,Z8 ZW done.toNat] H fun r H'=>br H' r (iN (nW F.st.length F.be (bt done)))/\(∀q,ay r q->H.size<=q)/\af (fun _=>False) H H'
def yR (m:Nat) (be:List fC) (d:Nat->Bool):((ZF (m+1)).filter fun k=>!gR be d k&&!cz d (k:Int))=((ZF m).filter fun k=>!gR be d k&&!cz d (k:Int))++if(!gR be d m&&!cz d (m:Int))=ZT then[m]else[]:=by
 rw[List.range_succ,List.filter_append]
 congr 1
 simp only[List.filter_cons,List.filter_nil]
def abk (hk:ak P k (HT V) HU 2):qA P k:=by
 intro F v done H hv hn hbl hok;obtain⟨s,b,d,a,m,rfl,h1,h2,h3,h4,h5⟩:=hv;refine qI fun Q hQ=>?_;refine ah hk (args:=[_,_]) (by simp) ?_;unfold HT HU kA kB kC kD ke kG kH kK kN kO kR kU kV kd kf kY kZ;simp only[go_sem,Za,Zb];refine ax fun H1 b2 e1 z1 B1 K1=>?_;have bL:Bl H1 b2 [s,b,d,a,m]:=B1;have c0:cell H1 ⟨b2,0,ZU⟩=ZV s:=by rw[bL.cell];rfl
 obtain⟨LF,Rl⟩:∃LF:Nat->List Nat,∀i,LF i=(ZF i).filter fun k=>!gR F.be (bt done) k&&!cz (bt done) (k:Int):=⟨_,fun _=>rfl⟩
 have hLl:∀i,(LF i).length<=i:=fun i=>by
  rw[Rl];have:=YS (fun k=>!gR F.be (bt done) k&&!cz (bt done) (k:Int)) (ZF i)
  rwa [Xl]at this
 simp only[go_sem,Za,Zb,ae,c0,h1.aq,h1.len];refine aF F.st.length [14,6,7,22,23,24,25,9,45,5,13] rfl rfl (by omega) (by rfl) (by rfl) (fun i g A=>∃lv,g 5=lv/\br A lv (iN (LF i))/\(∀q,ay lv q->H1.size<=q)/\af (fun _=>False) H1 A) ⟨Z6 ZU 0 0,by simp only[go_sem,Za,Zb,ae],by rw[Rl];exact br.nil _,fun q h=>h.elim,af.refl _ _⟩ ?_ ?_
 ·rintro i g A hi gi gn ⟨lv,g5,OA,oA,KA⟩;simp only[go_sem,Za,Zb,ae]at gi gn g5;have sA:=KA.size;have c1:cell A ⟨b2,1,ZU⟩=ZV b:=by rw[(KA.bl bL id).cell];rfl
  have Rc:((i:Int)).toNat=i:=by omega
  simp only[go_sem,Za,Zb,ae,gi,c1,h2.aq,h2.len,Rc,qz];refine⟨⟨by omega,by show((i:Nat):Int)<=((64:Nat):Int);omega⟩,by decide,?_⟩;refine aF F.be.length [25,9,7,24] rfl rfl (by omega) (by rfl) (by rfl) (fun j g2 X=>g2 7=.bool (!bt done i&&!((F.be.take j).any (NY (bt done) i)))/\g2 5=lv/\af (fun _=>False) A X) ⟨by simp only[go_sem,Za,Zb,ae];simp,by simp only[go_sem,Za,Zb,ae,g5],af.refl _ _⟩ ?_ ?_
  ·rintro j g2 X hj gj gm ⟨g7,g52,KX⟩;simp only[go_sem,Za,Zb,ae]at gj gm g7 g52;have lP:=(K1.trans KA).trans KX;obtain⟨pb,po,pc,fT,oz,hld⟩:=(h2.aj lP).elem dy hj;obtain⟨x,hx⟩:∃x,x=F.be[j]:=⟨_,rfl⟩
   rw[<-hx]at hld;have dm:aQ X ⟨pb,po+j*2,ZU⟩ 2=ZV #[Z8 ZY x.1,Z8 ZY x.2]:=hld;simp only[go_sem,Za,Zb,gj,fT,al,aC,dm];refine⟨by omega,?_⟩;refine aO [Z8 ZY x.1,Z8 ZY x.2] (by rfl) rfl rfl rfl fun X1 b9 e9 z9 B9 K9=>?_;simp only[go_sem,Za,Zb,ae];refine abj (bp:=b9) (k:=i) (n:=F.st.length) (done:=done) (x:=x) (rd:=!bt done i&&!((F.be.take j).any (NY (bt done) i))) (by rfl) (by rfl) (by simp only[go_sem,Za,Zb,ae,g7]) (by rfl) B9 (hok x (by rw[hx];exact List.getElem_mem _)) hn ?_;simp only[go_sem,Za,Zb,ae,g52];refine⟨?_,KX.trans K9⟩;rw[cZ hj,List.any_append,<-hx];simp only[List.any_cons,List.any_nil,Bool.or_false,Bool.not_or,Bool.and_assoc]
  ·rintro g2 X gj ⟨g7,g52,KX⟩;simp only[go_sem,Za,Zb,ae]at g7 g52;rw[ZI]at g7;simp only[go_sem,Za,Zb,ae];have hw:(!bt done i&&!(F.be.any (NY (bt done) i)))=(!gR F.be (bt done) i&&!cz (bt done) (i:Int)):=by
    rw[gB (by omega),Bool.and_comm];rfl
   rw[hw]at g7;refine abi (i:=i) (rd:=!gR F.be (bt done) i&&!cz (bt done) (i:Int)) (L:=LF i) (C:=H1.size) (by simp only[go_sem,Za,Zb,ae,g52]) (by rfl) (by simp only[go_sem,Za,Zb,ae,g7]) (by have:=hLl i;omega) (OA.ai KX (by simp)) oA (by have:=KX.size;omega) fun v' f' A' yQ O' o' K'=>?_;simp only[go_sem,Za,Zb,ae];refine⟨v',yQ,?_,o',(KA.trans KX).trans' K' fun q hq h=>by omega⟩;rw[Rl,yR,<-Rl];exact O'
 ·rintro g A gi ⟨lv,g5,OA,oA,KA⟩;simp only[go_sem,Za,Zb,ae]at g5;simp only[go_sem,Za,Zb,ae,g5];rw[hQ];have:=K1.size;exact⟨by rw[Rl]at OA;exact OA,fun q hq=>by have:=oA q hq;omega,K1.trans KA⟩
def wK (n:Nat) (be:List fC) (d:Nat->Bool):(nW n be d).length<=n:=by
 have:=YS (fun k=>!gR be d k&&!cz d (k:Int)) (ZF n)
 rwa [Xl]at this
def Br (V:aH):S:=
 kY [kR 1 (V.t 296) 0,kC 2 (Z5 ZS)] (kY [kM 3 5 1,kU 4 (.m (.bld #[kZ] [])),kc 5 (kg (V.f 307) [.t 3,.c (Z8 ZY 63),.t 4]),kU 6 (.cm .eql ZY (.t 5) (.c (Z8 ZY 0))),kB 2 6] .ret)
def Bt:List RV:=[.t 2]
def HV (V:aH):S:=
 kY [kR 3 (V.t 194) 0,kC 4 (Z5 ZS)] (kY [kP 5 2 1 3 1,kD 6 5,kU 7 (.ld (.v 1)),kU 8 (.cm .eql ZY (.t 6) (.t 7)),kF 9 8,kT 10 9 ZT (.m (.ldn 1 (.v 2))),kT 11 9 ZT (.ia 2 1 (.v 3) (.c (Z8 ZY 0))),kT 12 9 ZT (.ld (.t 11)),.ge (.t 13) (.t 9) ZT (kg (V.f 130) [.t 10,.t 12]),kT 14 9 ZT (.not (.t 13)),kJ 15 9 14,kB 4 15] .ret)
def HW:List RV:=[.t 4]
def HX (V:aH):S:=
 kY [kR 2 (V.t 296) 0,kR 3 (V.t 128) 1,kC 4 (kZ)] (.seq (kY [kM 8 5 2,kc 9 (kg (V.f 312) [.t 8]),kV 10 (.not (.t 9))] (.ite (.v 10) (kY [kC 4 (kZ)] .ret) .skip)) (kY [kC 5 (kZ)] (.seq (kY [kG 11 0 2,kD 12 11,kV 13 (.m (.lenl (.t 12))),kC 14 (Z8 ZY 0)] (.blk 0 (.loop (kY [kH 15 14 13] (.seq (.ite (.v 15) .skip (.exit 0)) (.seq (.blk 1 (kY [kA 16 14,kd 6 (.new (V.t 26) #[Z8 ZY 0]),kf (.st (.v 6) (.t 16))] (kY [kG 17 1 2,kD 18 17,kU 19 (.m (.mkf (V.f 313) [] [.v 6,.v 3])),kc 20 (kg (V.f 304) [.t 18,.t 19]),kB 7 20] (kY [kA 21 7,kU 22 (.not (.t 21)),kF 23 22,kT 24 23 ZT (.m (.ldn 1 (.v 3))),kT 25 23 ZT (.ld (.v 6)),.ge (.t 26) (.t 23) ZT (kg (V.f 130) [.t 24,.t 25]),kT 27 23 ZT (.not (.t 26)),kV 28 (.pick (.t 23) (.t 27) (.c (Z5 ZS)))] (.ite (.v 28) (.reg [kA 29 5,kU 30 (.ld (.v 6)),kc 31 (.aX (V.t 26) 1 1 [.t 30]),kc 32 (.app ZS (V.t 26) 1 8 #[Z8 ZY 0] (.t 29) (.t 31)),kB 5 32]) .skip))))) (.reg [ke 33 14,kB 14 33]))))))) (kY [kA 34 5,kB 4 34] .ret))))
def HY:List RV:=[.t 4]
noncomputable def nM (F:cf):Bool:=ZQ (fF F 63 (fun _=>ZS)=0)
def fU (P:Program) (V:aH) (k:FuncId):Prop:=∀(F:cf) (v:ZR) (H:Hp),bh V H->bZ H v F->an P k #[v] H fun r H'=>r=.bool (nM F)/\af (fun _=>False) H H'
def Rm (hk:ak P k (Br V) Bt 1) (hc:qy P V (V.f 307)):fU P V k:=by
 intro F v H hT hv;have pg:=hv;obtain⟨s,b,d,a,m,ms,rfl,h1,h2,h3,h4,h5,h6⟩:=hv;refine ah hk (args:=[_]) (by simp) ?_;unfold Br Bt kB kC kM kR kU kc kg kY kZ;simp only[go_sem,Za,Zb];refine ax fun H1 b1 e1 z1 B1 K1=>?_;have bL:Bl H1 b1 [s,b,d,a,m]:=B1;simp only[go_sem,Za,Zb,ae,bL.aL 5 rfl];refine(hc F _ _ 63 _ H1 (hT.ai K1) (pg.aj K1) (aR.empty H1 ZU 0)).mono ?_;rintro r A ⟨rfl,K2⟩;rw[ae];have e:(fF F 63 (fun _=>ZS)==0)=nM F:=by
  unfold nM;rw[YU];simp
 simp only[go_sem,Za,Zb,ae,e];exact K1.trans K2
def qB:nM F=ZT↔fF F 63 (fun _=>ZS)=0:=by unfold nM;exact decide_eq_true_iff
def dH (h:nM F=ZT):Good F:=(G9.1 (qB.1 h)).1
def wL (r:cF):nM (bu r)=ZT:=qB.2 (aaT r (by omega) fun _ _ _=>rfl)
def E8 (P:Program) (k:FuncId):Prop:=bS P k=ZT/\∀(x:fC) (i b6 b3:Nat) (d:Nat->Bool) (dv:ZR) (H:Hp),Bl H b6 [Z8 ZY (i:Int)]->Bl H b3 [dv]->aR H (Z0 #[dv]) d->an P k #[.agg (pE x).toArray,Z7 (ZV ⟨b6,0,ZU⟩),Z7 (ZV ⟨b3,0,ZU⟩)] H fun r H'=>r=.bool (NY d i x)/\af (fun _=>False) H H'
def abl (hk:ak P k (HV V) HW 3) (hh:fk P (V.f 130)):E8 P k:=by
 refine⟨hk.body,fun x i b6 b3 d dv H B6 B3 hd=>?_⟩;refine ah hk (args:=[_,_,_]) (by simp) ?_;unfold HV HW kB kF kC kD kJ kP kR kT kU kg kY;simp only[go_sem,Za,Zb];refine ax fun H1 b1 e1 z1 B1 K1=>?_;have bL:Bl H1 b1 (pE x):=B1;have c0:cell H1 ⟨b1,0,ZU⟩=ZV (Z8 ZY x.1):=by rw[bL.cell];rfl
 have c1:cell H1 ⟨b1,1,ZU⟩=ZV (Z8 ZY x.2):=by rw[bL.cell];rfl
 have c6:cell H1 ⟨b6,0,ZU⟩=ZV (Z8 ZY (i:Int)):=by rw[(K1.bl B6 id).cell];rfl
 have B31:=K1.bl B3 id
 by_cases e:x.2=(i:Int)
 ·have d1:(x.2==(i:Int))=ZT:=by simp[e]
  simp-implicitDefEqProofs only[go_sem,↓reduceIte,Za,Zb,Zc,reduceCtorEq,ae,Zf,Zg,Zh,Zi,Zd,Ze,c0,c1,c6,d1,B31.aL 1 rfl];refine(hh d _ x.1 H1 (hd.aj K1)).mono ?_;rintro r A ⟨rfl,K2⟩;rw[ae];simp only[go_sem,Za,Zb,ae];refine⟨?_,K1.trans K2⟩;simp[NY,e]
 ·have d1:(x.2==(i:Int))=ZS:=by simp[e]
  simp-implicitDefEqProofs only[go_sem,↓reduceIte,Za,Zb,Zc,reduceCtorEq,ae,Zf,Zg,Zh,Zi,Zd,Ze,c0,c1,c6,d1];refine⟨?_,K1⟩;simp[NY,e]
def wM (P:Program) (V:aH) (k:FuncId):Prop:=∀(F:cf) (v x:ZR) (d:Nat->Bool) (H:Hp),bh V H->bZ H v F->nM F=ZT->aR H x d->an P k #[v,x] H fun r H'=>br H' r (iN (nW F.st.length F.be d))/\(∀q,ay r q->H.size<=q)/\af (fun _=>False) H H'
structure akS (P:Program) (V:aH):Prop where
 gd:fU P V (V.f 312)
 r1:E8 P (V.f 313)
 con:jM pE P (V.f 304)
 has:fk P (V.f 130)
def abm (hk:ak P k (HX V) HY 2) (c:akS P V):wM P V k:=by
 intro F v x d H hT hv hok hx;have pg:=hv;have hx0:=hx;obtain⟨dv,W,rfl,hV⟩:=hx;obtain⟨s,b,dd,a,m,ms,rfl,h1,h2,h3,h4,h5,h6⟩:=hv;have hG:=dH hok;have su:=hG.lim;unfold iJ at su;refine qI fun Q hQ=>?_;refine ah hk (args:=[_,_]) (by simp) ?_;unfold HX HY kA kB kF kC kD ke kG kH kM kR kT kU kV kc kd kf kg kY kZ;simp only[go_sem,Za,Zb];refine ax fun H1 b2 e1 z1 B1 K1=>?_;have bL:Bl H1 b2 [s,b,dd,a,m]:=B1;simp only[go_sem,Za,Zb];refine ax fun H2 b3 e2 z2 B2 K2=>?_;have fG:Bl H2 b3 [dv]:=B2;have gI:=K2.bl bL id;have cS:=K1.trans K2;simp only[go_sem,Za,Zb,ae,gI.aL 5 rfl];refine(c.gd F _ H2 (hT.ai cS) (pg.aj cS)).mono ?_;rintro r H3 ⟨rfl,K3⟩;have eo:=cS.trans K3;have jv:=K3.bl gI id;have tR:=K3.bl fG id;have c0:cell H3 ⟨b2,0,ZU⟩=ZV s:=by rw[jv.cell];rfl
 rw[ae,hok];obtain⟨LF,Rl⟩:∃LF:Nat->List Nat,∀i,LF i=(ZF i).filter fun k=>!gR F.be d k&&!cz d (k:Int):=⟨_,fun _=>rfl⟩
 have hLl:∀i,(LF i).length<=i:=fun i=>by
  rw[Rl];have:=YS (fun k=>!gR F.be d k&&!cz d (k:Int)) (ZF i)
  rwa [Xl]at this
 simp only[go_sem,Za,Zb,ae,ZE,c0,h1.aq,h1.len];refine aF F.st.length [15,6,7,28,5,14] rfl rfl (by omega) (by rfl) (by rfl) (fun i g A=>∃lv,g 5=lv/\br A lv (iN (LF i))/\(∀q,ay lv q->H3.size<=q)/\af (fun _=>False) H3 A) ⟨Z6 ZU 0 0,by simp only[go_sem,Za,Zb,ae],by rw[Rl];exact br.nil _,fun q h=>h.elim,af.refl _ _⟩ ?_ ?_
 ·rintro i g A hi gi gn ⟨lv,g5,OA,oA,KA⟩;simp only[go_sem,Za,Zb,ae]at gi gn g5;have sA:=KA.size;simp only[go_sem,Za,Zb,gi];refine EY (Z8 ZY (i:Int)) (by rfl) rfl fun A1 b6 e6 z6 B6 K6=>?_;have K31:=KA.trans K6;have QU:=K31.bl jv id;have NT:=K31.bl tR id;have c1:cell A1 ⟨b2,1,ZU⟩=ZV b:=by rw[QU.cell];rfl
  have HQ:=eo.trans K31;have ans:aa8 P pE (NY d i) F.be (V.f 313) #[] #[Z7 (ZV ⟨b6,0,ZU⟩),Z7 (ZV ⟨b3,0,ZU⟩)] A1:=⟨c.r1.1,fun y _ A2 K2=>by
   have:=c.r1.2 y i b6 b3 d dv A2 (K2.bl B6 id) (K2.bl NT id) (hx0.aj (HQ.trans K2));simpa using this⟩
  simp only[go_sem,Za,Zb,ae,c1];refine(c.con F.be _ b _ _ _ A1 (h2.aj HQ) (by omega) ans).mono ?_;rintro r A2 ⟨rfl,NZ⟩;have sA2:=NZ.size;have s6:=K6.size;rw[ae];have c6:cell A2 ⟨b6,0,ZU⟩=ZV (Z8 ZY (i:Int)):=by rw[(NZ.bl B6 (by simp)).cell];rfl
  have hw:F.be.any (NY d i)=gR F.be d i:=rfl;rw[hw];have hsuc:∀rd,(!gR F.be d i&&!cz d (i:Int))=rd->LF (i+1)=LF i++if rd=ZT then[i]else[]:=fun rd h=>by rw[Rl,yR,<-Rl,h]
  cases hwt:gR F.be d i with
  |true=>
   have hs:=hsuc ZS (by rw[hwt];rfl);simp only[go_sem,Za,Zb,ae,ZE,g5];exact⟨lv,rfl,by rw[hs];simpa using(OA.ai K6 (by simp)).ai NZ (by simp),oA,K31.trans NZ⟩
  |false=>
   have B22:=NZ.bl NT (by simp);simp-implicitDefEqProofs only[go_sem,↓reduceIte,Za,Zb,Zc,reduceCtorEq,ae,ZB,c6,B22.aL 1 rfl];refine(c.has d _ (i:Int) A2 (hx0.aj (HQ.trans NZ))).mono ?_;rintro r A3 ⟨rfl,KA3⟩;have sA3:=KA3.size;have KK:=K6.trans (NZ.trans KA3);have c63:cell A3 ⟨b6,0,ZU⟩=ZV (Z8 ZY (i:Int)):=by rw[((NZ.trans KA3).bl B6 (by simp)).cell];rfl
   rw[ae]
   cases hm:cz d (i:Int)with
   |true=>
    have hs:=hsuc ZS (by rw[hm];simp);simp only[go_sem,Za,Zb,ae,ZE,g5];exact⟨lv,rfl,by rw[hs];simpa using OA.ai KK (by simp),oA,KA.trans KK⟩
   |false=>
    have hs:=hsuc ZT (by rw[hm,hwt];rfl);simp only[go_sem,Za,Zb,ZB,g5,c63];refine aG fun A4 b4 e4 z4 B4 K4=>?_;have tU:Bl A4 b4 (iN [i]):=B4;have DT:=hLl i;simp only[go_sem,Za,Zb,ae];refine ja (m:=iN [i]) H3.size (OA.ai (KK.trans K4) (by simp)) oA (by have:=K4.size;omega) (aP.bl tU 0 1 1 (by omega) (by simp[bH])) (gT _) rfl (by omega) (by rw[bH,bH];simp;omega) fun v' A5 O5 o5 K5=>?_;simp only[go_sem,Za,Zb,ae];exact⟨v',rfl,by rw[hs,if_pos rfl,AO];exact O5,o5,((KA.trans KK).trans K4).trans' K5 fun q hq h=>by omega⟩
 ·rintro g A gi ⟨lv,g5,OA,oA,KA⟩;simp only[go_sem,Za,Zb,ae]at g5;simp only[go_sem,Za,Zb,ae,g5];rw[hQ];have:=eo.size;exact⟨by rw[Rl]at OA;exact OA,fun q hq=>by have:=oA q hq;omega,eo.trans KA⟩
end Go.Mg
