/- Lemmas of ours. No conditions. -/
import Derived.Test.YteeemadonfcliaaGreatDoorMgV5
open Nat renaming reduceEqDiff→Za,reduceAdd→Zb,reduceMul→Zc,reduceLeDiff→Zd,reduceLT→Ze
open Int renaming reduceBEq→Zf,reduceBNe→Zg,reduceLE→Zh,reduceLT→Zi
set_option linter.all false
set_option maxRecDepth 100000
namespace Go.Mg
open Go Go.RowKit
def y9 (ι:aJ):S:=
 (kY [kG 20 0 3,kD 21 20,kL 22 21,kU 23 (.cm .gtr .i64 (.t 22) (.c (.int .i64 10))),kF 24 23,kT 25 24 false (.fa 1 (.v 3)),kT 26 24 false (.ld (.t 25)),kT 27 24 false (.m (.lenl (.t 26))),kT 28 24 false (.fa 2 (.v 3)),kT 29 24 false (.ld (.t 28)),kT 30 24 false (.m (.lenl (.t 29))),kT 31 24 false (.fa 3 (.v 3)),kT 32 24 false (.ld (.t 31)),kT 33 24 false (.m (.lenl (.t 32))),kT 34 24 false (.fa 4 (.v 3)),kT 35 24 false (.ld (.t 34)),kT 36 24 false (.m (.lenl (.t 35))),kT 37 24 false (.m (.mxs (.t 27) [.t 30,.t 33,.t 36])),kT 38 24 false (.cm .gtr .i64 (.t 37) (.c (.int .i64 20))),kV 39 (.pick (.t 24) (.c (.bool true)) (.t 38))] (.ite (.v 39) (kY [kC 6 (.int .i64 3)] .ret) .skip))
def zd (ι:aJ):S:=
 (kY [kG 49 0 8,kD 50 49,kc 51 (kg (ι.f 75) [.t 50]),kU 52 (.not (.t 51)),kB 48 52] (.ite (.v 48) (kY [kC 6 (.int .i64 9)] .ret) (kY [kG 54 0 3,kD 55 54,kA 56 7,kU 57 (.m (.sls 2 (.t 55) .none (.some (.t 56)))),kU 58 (.m (.mkf (ι.f 305) [] [.v 8])),kc 59 (kg (ι.f 302) [.t 57,.t 58]),kB 53 59] (.ite (.v 53) (kY [kC 6 (.int .i64 5)] .ret) (kY [kG 61 1 8,kD 62 61,kU 63 (.cm .lss .i64 (.t 62) (.c (.int .i64 1))),kF 64 63,kT 65 64 false (.fa 1 (.v 8)),kT 66 64 false (.ld (.t 65)),kS 67 64 false 1,kT 68 64 false (.cm .gtr .i64 (.t 66) (.t 67)),kU 69 (.pick (.t 64) (.c (.bool true)) (.t 68)),kF 70 69,kT 71 70 false (.m (.ldn 1 (.v 5))),kT 72 70 false (.fa 1 (.v 8)),kT 73 70 false (.ld (.t 72)),.ge (.t 74) (.t 70) false (kg (ι.f 130) [.t 71,.t 73]),kU 75 (.pick (.t 70) (.c (.bool true)) (.t 74)),kB 60 75] (.ite (.v 60) (kY [kC 6 (.int .i64 10)] .ret) .skip))))))
def ze (ι:aJ):S:=
 (.seq (.dr (kW 105 (.fa 0 (.v 13)) (kW 106 (.ld (.t 105)) (kW 107 (.cm .lss .i64 (.t 106) (.c (.int .i64 1))) (kW 108 (.mv (.t 107)) (.px (.t 109) (.some (.t 108,false)) (.fa 0 (.v 13)) (.px (.t 110) (.some (.t 108,false)) (.ld (.t 109)) (.px (.t 111) (.some (.t 108,false)) (.cm .gtr .i64 (.t 110) (.c (.int .i64 10))) (kW 112 (.pick (.t 108) (.c (.bool true)) (.t 111)) (kW 113 (.mv (.t 112)) (.px (.t 114) (.some (.t 113,false)) (.fa 1 (.v 13)) (.px (.t 115) (.some (.t 113,false)) (.m (.ldn 1 (.t 114))) (.wcons (.t 116) (.some (.t 113,false)) (kg (ι.f 133) [.t 115]) (kW 117 (.pick (.t 113) (.c (.bool true)) (.t 116)) (kW 118 (.mv (.t 117)) (.px (.t 119) (.some (.t 118,false)) (.fa 1 (.v 13)) (.px (.t 120) (.some (.t 118,false)) (.m (.ldn 1 (.t 119))) (.px (.t 121) (.some (.t 118,false)) (.fa 0 (.v 3)) (.px (.t 122) (.some (.t 118,false)) (.ld (.t 121)) (.px (.t 123) (.some (.t 118,false)) (.m (.lenl (.t 122))) (.wcons (.t 124) (.some (.t 118,false)) (kg (ι.f 306) [.t 123]) (.wcons (.t 125) (.some (.t 118,false)) (kg (ι.f 141) [.t 120,.t 124]) (.px (.t 126) (.some (.t 118,false)) (.not (.t 125)) (kX 127 (.pick (.t 118) (.c (.bool true)) (.t 126)) .done)) .wnil) .wnil)))))))) .wnil))))))))))))) (.ite (.v 127) (kY [kC 6 (.int .i64 2)] .ret) .skip))
def zf (ι:aJ):S:=
 kY [kR 3 (ι.t 296) 0,kR 5 (ι.t 128) 2,kC 6 (.int .i64 0)] (.seq (kY [kG 16 0 3,kD 17 16,kL 18 17,kV 19 (.cm .eql .i64 (.t 18) (.c (.int .i64 0)))] (.ite (.v 19) (kY [kC 6 (.int .i64 4)] .ret) .skip)) (.seq (y9 ι) (.seq (kY [kG 40 0 3,kV 41 (.ld (.t 40)),kO 42 41,kC 43 (.int .i64 0)] (.blk 0 (.loop (kY [kH 44 43 42] (.seq (.ite (.v 44) .skip (.exit 0)) (.seq (.blk 1 (kY [kA 45 43,kK 46 2 41 43,kN 47 2 46,kd 8 (.new (ι.t 297) #[.string ⟨#[]⟩,.int .i64 0]),kB 7 45,kf (.stn 2 (.v 8) (.t 47))] (.blk 2 (zd ι)))) (.reg [ke 76 43,kB 43 76]))))))) (.seq (kY [kG 77 1 3,kD 78 77,kG 79 2 3,kD 80 79,kG 81 3 3,kD 82 81,kd 83 (.cj (ι.t 235) 1 3 [.t 78,.t 80,.t 82]),kO 84 83,kC 85 (.int .i64 0)] (.blk 3 (.loop (kY [kH 86 85 84] (.seq (.ite (.v 86) .skip (.exit 3)) (.seq (.blk 4 (kY [kK 87 1 83 85,kD 88 87,kB 10 88] (kY [kA 89 10,kG 90 0 3,kD 91 90,kL 92 91,kc 93 (kg (ι.f 284) [.t 89,.t 92]),kB 11 93] (kY [kA 94 11,kV 95 (.cm .neq .i64 (.t 94) (.c (.int .i64 0)))] (.ite (.v 95) (kY [kA 96 11,kB 6 96] .ret) .skip))))) (.reg [ke 97 85,kB 85 97]))))))) (.seq (kY [kG 98 4 3,kV 99 (.ld (.t 98)),kO 100 99,kC 101 (.int .i64 0)] (.blk 5 (.loop (kY [kH 102 101 100] (.seq (.ite (.v 102) .skip (.exit 5)) (.seq (.blk 6 (kY [kK 103 2 99 101,kN 104 2 103,kd 13 (.new (ι.t 298) #[.int .i64 0,kZ]),kf (.stn 2 (.v 13) (.t 104))] (ze ι))) (.reg [ke 128 101,kB 101 128]))))))) (kY [kG 130 0 3,kD 131 130,kL 132 131,kG 133 1 3,kD 134 133,kc 135 (kg (ι.f 201) [.t 132,.t 134]),kF 129 135,kQ 136 129 0,kQ 137 129 1,kF 14 136,kB 15 137] (kY [kA 138 15,kB 6 138] .ret)))))))
def zg:List RV:=[.t 6]
structure Pa (P:Program) (ι:aJ):Prop where
 va:pB P (ι.f 75)
 con:pD gE P (ι.f 302)
 c1:pG P (ι.f 305)
 has:fP P (ι.f 130)
 em:fu P (ι.f 133)
 wi:fQ P (ι.f 141)
 bel:ig P (ι.f 306)
 prs:mD P (ι.f 284)
 nw:pj P ι (ι.f 201)
variable {P:Program} {ι:aJ} {f:Fr} {A:Hp} {b3 i n:Nat} {s r1 r2 r3 r4:Value} {m:UInt64} {Qb:Ex->Fr->Hp->Prop} {roles:Int} {p:Nat->Bool} {l:List Dk}
theorem Kc {b d a m:Value} {F:jn} {n0 n1 n2 n3 n4:Nat} (h3:f 3=.pointer (some ⟨b3,0,none⟩)) (B:Bl A b3 [s,b,d,a,m]) (i0:ax s) (i1:ax b) (i2:ax d) (i3:ax a) (i4:ax m) (l0:aP s=n0) (l1:aP b=n1) (l2:aP d=n2) (l3:aP a=n3) (l4:aP m=n4)
  (hT:(10<n0\/20<n1\/20<n2\/20<n3\/20<n4)->∀f',f' 6=.int .i64 3->Qb .r f' A) (hF:¬(10<n0\/20<n1\/20<n2\/20<n3\/20<n4)->Qb .n (bN f 39 (.bool false)) A):vc P (y9 ι) Qb f A:=by
 unfold y9 kF kC kD kG kL kT kU kV kY;have c0:cell A ⟨b3,0,none⟩=some s:=by rw[B.cell];rfl
 have c1:cell A ⟨b3,1,none⟩=some b:=by rw[B.cell];rfl
 have c2:cell A ⟨b3,2,none⟩=some d:=by rw[B.cell];rfl
 have c3:cell A ⟨b3,3,none⟩=some a:=by rw[B.cell];rfl
 have c4:cell A ⟨b3,4,none⟩=some m:=by rw[B.cell];rfl
 by_cases h10:(n0:Int)>10
 ·have d1:decide ((n0:Int)>10)=true:=decide_eq_true h10;simp-implicitDefEqProofs only[go_sem,zS,↓reduceIte,Za,Zb,Zc,reduceCtorEq,ae,zU,zV,Zf,Zg,Zh,Zi,Zd,Ze,zF,h3,c0,i0,l0,d1];exact hT (.inl (by omega)) _ (by simp-implicitDefEqProofs only[go_sem,zS,↓reduceIte,Za,Zb,Zc,reduceCtorEq,ae,zU,zV,Zf,Zg,Zh,Zi,Zd,Ze])
 ·have d1:decide ((n0:Int)>10)=false:=decide_eq_false h10;obtain⟨mx,hmx⟩:∃mx,mx=Mh (n1:Int) [(n2:Int),(n3:Int),(n4:Int)]:=⟨_,rfl⟩
  have Kd:mx>20↔(20<n1\/20<n2\/20<n3\/20<n4):=by
   rw[hmx];simp only[Mh]
   split<;>split<;>split<;>omega
  simp only[Mh]at hmx;have o2:∀v,v=d\/v=a\/v=m->isInt (.int .i64 (aP v:Int)):=fun _ _=>trivial
  by_cases hb:mx>20
  ·have d2:decide (mx>20)=true:=decide_eq_true hb;simp-implicitDefEqProofs only[go_sem,zS,↓reduceIte,Za,Zb,Zc,reduceCtorEq,ae,zU,zV,Zf,Zg,Zh,Zi,Zd,Ze,zF,h3,c0,c1,c2,c3,c4,i0,i1,i2,i3,i4,l0,l1,l2,l3,l4,d1,kindOf,<-hmx,d2];exact hT (by have:=Kd.1 hb;omega) _ (by simp-implicitDefEqProofs only[go_sem,zS,↓reduceIte,Za,Zb,Zc,reduceCtorEq,ae,zU,zV,Zf,Zg,Zh,Zi,Zd,Ze])
  ·have d2:decide (mx>20)=false:=decide_eq_false hb;simp-implicitDefEqProofs only[go_sem,zS,↓reduceIte,Za,Zb,Zc,reduceCtorEq,ae,zU,zV,Zf,Zg,Zh,Zi,Zd,Ze,zF,h3,c0,c1,c2,c3,c4,i0,i1,i2,i3,i4,l0,l1,l2,l3,l4,d1,kindOf,<-hmx,d2];exact hF (fun h=>hb (Kd.2 (by omega)))
theorem Ke (c:Pa P ι) {b5 b8:Nat} {x:BH} {st:List BH} {xv:Value} (h1:f 1=.int .i64 roles) (h3:f 3=.pointer (some ⟨b3,0,none⟩)) (h5:f 5=.pointer (some ⟨b5,0,none⟩)) (h7:f 7=.int .i64 (i:Int)) (h8:f 8=.pointer (some ⟨b8,0,none⟩))
  (B3:Bl A b3 [s,r1,r2,r3,r4]) (B5:Bl A b5 [xv]) (B8:Bl A b8 (gE x)) (hs:bo gE 2 A s st) (hi:i<st.length) (hl:st.length<=1000000) (hx:aS A (.agg #[xv]) p)
  (hT:∀e f' A',wX roles p (st.take i) x=e->e≠0->f' 6=.int .i64 e->af (fun _=>False) A A'->Qb .r f' A') (hF:∀f' A',wX roles p (st.take i) x=0->af (fun _=>False) A A'->Qb .n f' A'):vc P (zd ι) Qb f A:=by
 unfold zd kA kB kF kC kD kG kS kT kU kc kg kY;have c8:cell A ⟨b8,0,none⟩=some (sV x.1):=by rw[B8.cell];rfl
 simp-implicitDefEqProofs only[go_sem,zS,↓reduceIte,Za,Zb,Zc,reduceCtorEq,ae,zU,zV,Zf,Zg,Zh,Zi,Zd,Ze,zF,h8,c8];refine(c.va x.1 A).mono ?_;rintro r A1 ⟨rfl,K1⟩;rw[ae]
 cases hv:cB x.1 with
 |false=>
  simp-implicitDefEqProofs only[go_sem,zS,↓reduceIte,Za,Zb,Zc,reduceCtorEq,ae,zU,zV,Zf,Zg,Zh,Zi,Zd,Ze,zF,Bool.not_false];exact hT 9 _ A1 (by unfold wX;rw[if_pos hv]) (by omega) (by simp-implicitDefEqProofs only[go_sem,zS,↓reduceIte,Za,Zb,Zc,reduceCtorEq,ae,zU,zV,Zf,Zg,Zh,Zi,Zd,Ze]) K1
 |true=>
  have XR:=K1.bl B3 (by simp);have B81:=K1.bl B8 (by simp);have hs1:=hs.aj K1;have c30:cell A1 ⟨b3,0,none⟩=some s:=by rw[XR.cell];rfl
  have hS:=hs1.SD i7 (n:=i) (by omega);obtain⟨va,vc,rfl,hcap⟩:=hs1.mk;obtain⟨w,hw⟩:∃w,w=vl (.slice va st.length vc) 2 none (some (i:Int)):=⟨_,rfl⟩
  rw[<-hw]at hS;have EM:Value.slice (if vc=0 then va else Option.map (fun x=>x) va) i vc=w:=by
   rw[hw,Cx];simp[kj,xM,Addr.add]
  have ans:O9 P gE (fun y:BH=>decide (y.1=x.1)) (st.take i) (ι.f 305) #[] #[.pointer (some ⟨b8,0,none⟩)] A1:=⟨c.c1.1,fun y _ A2 K2=>by
   have:=c.c1.2 y x b8 A2 (K2.bl B81 (by simp));simpa using this⟩
  simp-implicitDefEqProofs only[go_sem,zS,↓reduceIte,Za,Zb,Zc,reduceCtorEq,ae,zU,zV,Zf,Zg,Zh,Zi,Zd,Ze,zF,h3,h7,h8,c30,Bool.not_true];refine⟨by omega,?_⟩;rw[EM];refine(c.con (st.take i) _ w _ _ _ A1 hS (by rw[List.length_take];omega) ans).mono ?_;rintro r A2 ⟨rfl,K2⟩;have fy:=K1.trans K2;rw[ae]
  cases ha:(st.take i).any fun y=>decide (y.1=x.1)with
  |true=>
   simp-implicitDefEqProofs only[go_sem,zS,↓reduceIte,Za,Zb,Zc,reduceCtorEq,ae,zU,zV,Zf,Zg,Zh,Zi,Zd,Ze,zF];exact hT 5 _ A2 (by unfold wX;rw[if_neg (by rw[hv];simp),if_pos ha]) (by omega) (by simp-implicitDefEqProofs only[go_sem,zS,↓reduceIte,Za,Zb,Zc,reduceCtorEq,ae,zU,zV,Zf,Zg,Zh,Zi,Zd,Ze]) fy
  |false=>
   have B82:=fy.bl B8 (by simp);have SF:=fy.bl B5 (by simp);have p1:cell A2 ⟨b8,1,none⟩=some (.int .i64 x.2):=by rw[B82.cell];rfl
   have hE:∀z,(if x.2<1\/roles<x.2\/cX p x.2=true then(10:Int)else 0)=z->wX roles p (st.take i) x=z:=fun z h=>by
    unfold wX;rw[if_neg (by rw[hv];simp),if_neg (by rw[ha];simp)];exact h
   by_cases e1:x.2<1
   ·have d1:decide (x.2<1)=true:=decide_eq_true e1;simp-implicitDefEqProofs only[go_sem,zS,↓reduceIte,Za,Zb,Zc,reduceCtorEq,ae,zU,zV,Zf,Zg,Zh,Zi,Zd,Ze,zF,h8,p1,d1];exact hT 10 _ A2 (hE 10 (if_pos (.inl e1))) (by omega) (by simp-implicitDefEqProofs only[go_sem,zS,↓reduceIte,Za,Zb,Zc,reduceCtorEq,ae,zU,zV,Zf,Zg,Zh,Zi,Zd,Ze]) fy
   ·have d1:decide (x.2<1)=false:=decide_eq_false e1
    by_cases e2:x.2>roles
    ·have d2:decide (x.2>roles)=true:=decide_eq_true e2;simp-implicitDefEqProofs only[go_sem,zS,↓reduceIte,Za,Zb,Zc,reduceCtorEq,ae,zU,zV,Zf,Zg,Zh,Zi,Zd,Ze,zF,h1,h8,p1,d1,d2];exact hT 10 _ A2 (hE 10 (if_pos (.inr (.inl e2)))) (by omega) (by simp-implicitDefEqProofs only[go_sem,zS,↓reduceIte,Za,Zb,Zc,reduceCtorEq,ae,zU,zV,Zf,Zg,Zh,Zi,Zd,Ze]) fy
    ·have d2:decide (x.2>roles)=false:=decide_eq_false e2;simp-implicitDefEqProofs only[go_sem,zS,↓reduceIte,Za,Zb,Zc,reduceCtorEq,ae,zU,zV,Zf,Zg,Zh,Zi,Zd,Ze,zF,h1,h5,h8,p1,d1,d2,SF.aI 1 rfl];refine(c.has p _ x.2 A2 (hx.aj fy)).mono ?_;rintro r A3 ⟨rfl,K3⟩;have ny:=fy.trans K3;rw[ae]
     cases hm:cX p x.2 with
     |true=>
      simp-implicitDefEqProofs only[go_sem,zS,↓reduceIte,Za,Zb,Zc,reduceCtorEq,ae,zU,zV,Zf,Zg,Zh,Zi,Zd,Ze,zF];exact hT 10 _ A3 (hE 10 (if_pos (.inr (.inr hm)))) (by omega) (by simp-implicitDefEqProofs only[go_sem,zS,↓reduceIte,Za,Zb,Zc,reduceCtorEq,ae,zU,zV,Zf,Zg,Zh,Zi,Zd,Ze]) ny
     |false=>
      simp-implicitDefEqProofs only[go_sem,zS,↓reduceIte,Za,Zb,Zc,reduceCtorEq,ae,zU,zV,Zf,Zg,Zh,Zi,Zd,Ze,zF];exact hF _ A3 (hE 0 (if_neg (by rw[hm];rintro(h|h|h);exact e1 h;exact e2 h;cases h))) ny
theorem jo (hn:n<=64):(∀j,bt m j=true->decide (j<n)=true)↔m.toNat<2^n:=by
 unfold bt
 constructor
 ·intro h;apply Classical.byContradiction;intro gx;have gx:2^n<=m.toNat:=by omega
  obtain⟨i,hi,hb⟩:=Nat.exists_ge_and_testBit_of_ge_two_pow gx;have:=h i hb;simp at this;omega
 ·intro h j hj;apply decide_eq_true;apply Classical.byContradiction;intro gx;have:m.toNat<2^j:=Nat.lt_of_lt_of_le h (Nat.pow_le_pow_right (by omega) (by omega));rw[Nat.testBit_lt_two_pow this]at hj;cases hj
theorem uh:(∀n,bt m n=false)↔m=0:=by
 constructor
 ·intro h;exact sZ fun k _=>by rw[h k,dU]
 ·rintro rfl n;exact dU n
theorem Kf (c:Pa P ι) {bm:Nat} {x:MV} {y:Dk} (h3:f 3=.pointer (some ⟨b3,0,none⟩)) (h13:f 13=.pointer (some ⟨bm,0,none⟩))
  (B3:Bl A b3 [s,r1,r2,r3,r4]) (Bm:Bl A bm (eJ x)) (i0:ax s) (l0:aP s=n) (hn:n<=10) (hx:x.1=y.1) (hm:aS A (.agg #[ug x]) (bt y.2))
  (hT:∀f' A',uf n y=2->f' 6=.int .i64 2->af (fun _=>False) A A'->Qb .r f' A') (hF:∀f' A',uf n y=0->af (fun _=>False) A A'->Qb .n f' A'):vc P (ze ι) Qb f A:=by
 unfold ze kC kW kX kg kY;have m0:cell A ⟨bm,0,none⟩=some (.int .i64 y.1):=by rw[Bm.cell,<-hx];rfl
 have mS:aR A ⟨bm,1,none⟩ 1=some #[ug x]:=by
  have:=Bm.aR (o:=1) (n:=1) (by simp[eJ]);simpa[eJ]using this
 have c30:cell A ⟨b3,0,none⟩=some s:=by rw[B3.cell];rfl
 have hE:∀z,(if y.1<1\/10<y.1\/y.2=0\/2^n<=y.2.toNat then(2:Int)else 0)=z->uf n y=z:=fun z h=>h;rw[x8];refine bC (fun _=>False) ?_
 by_cases e1:y.1<1
 ·have d1:decide (y.1<1)=true:=decide_eq_true e1;simp-implicitDefEqProofs only[go_sem,zS,↓reduceIte,Za,Zb,Zc,reduceCtorEq,ae,zU,zV,Zf,Zg,Zh,Zi,Zd,Ze,zF,h3,h13,m0,d1];exact hT _ A (hE 2 (if_pos (.inl e1))) (by simp-implicitDefEqProofs only[go_sem,zS,↓reduceIte,Za,Zb,Zc,reduceCtorEq,ae,zU,zV,Zf,Zg,Zh,Zi,Zd,Ze]) (af.refl _ _)
 have d1:decide (y.1<1)=false:=decide_eq_false e1
 by_cases e2:y.1>10
 ·have d2:decide (y.1>10)=true:=decide_eq_true e2;simp-implicitDefEqProofs only[go_sem,zS,↓reduceIte,Za,Zb,Zc,reduceCtorEq,ae,zU,zV,Zf,Zg,Zh,Zi,Zd,Ze,zF,h3,h13,m0,d1,d2];exact hT _ A (hE 2 (if_pos (.inr (.inl e2)))) (by simp-implicitDefEqProofs only[go_sem,zS,↓reduceIte,Za,Zb,Zc,reduceCtorEq,ae,zU,zV,Zf,Zg,Zh,Zi,Zd,Ze]) (af.refl _ _)
 have d2:decide (y.1>10)=false:=decide_eq_false e2;obtain⟨u,W,hu,hV⟩:=hm;simp only[Value.agg.injEq,Array.mk.injEq,List.cons.injEq,and_true]at hu;have hm:aS A (.agg #[ug x]) (bt y.2):=⟨u,W,by rw[hu],hV⟩
 rw[<-hu]at hV;simp-implicitDefEqProofs only[go_sem,zS,↓reduceIte,Za,Zb,Zc,reduceCtorEq,ae,zU,zV,Zf,Zg,Zh,Zi,Zd,Ze,zF,h3,h13,m0,aB,mS,d1,d2];refine(c.em _ _ W A hV).mono ?_;rintro r A1 ⟨rfl,K1⟩
 by_cases e3:W=[]
 ·have d3:decide (W=[])=true:=decide_eq_true e3;simp-implicitDefEqProofs only[go_sem,zS,↓reduceIte,Za,Zb,Zc,reduceCtorEq,ae,zU,zV,Zf,Zg,Zh,Zi,Zd,Ze,zF,h13,d3];have h0:y.2=0:=uh.1 (hV.nM.1 e3);exact⟨K1,hT _ A1 (hE 2 (if_pos (.inr (.inr (.inl h0))))) (by simp-implicitDefEqProofs only[go_sem,zS,↓reduceIte,Za,Zb,Zc,reduceCtorEq,ae,zU,zV,Zf,Zg,Zh,Zi,Zd,Ze]) K1⟩
 ·have d3:decide (W=[])=false:=decide_eq_false e3;have h0:¬y.2=0:=fun h=>e3 (hV.nM.2 (uh.2 h));have Bm1:=K1.bl Bm (by simp);have XR:=K1.bl B3 (by simp);have mS1:aR A1 ⟨bm,1,none⟩ 1=some #[ug x]:=by
   have:=Bm1.aR (o:=1) (n:=1) (by simp[eJ]);simpa[eJ]using this
  have XS:cell A1 ⟨b3,0,none⟩=some s:=by rw[XR.cell];rfl
  simp-implicitDefEqProofs only[go_sem,zS,↓reduceIte,Za,Zb,Zc,reduceCtorEq,ae,zU,zV,Zf,Zg,Zh,Zi,Zd,Ze,zF,h3,h13,d3,aB,mS1,XS,i0,l0];refine⟨K1,(c.bel n A1 (by omega)).mono ?_⟩;rintro r A2 ⟨S2,K2,_⟩;simp-implicitDefEqProofs only[go_sem,zS,↓reduceIte,Za,Zb,Zc,reduceCtorEq,ae,zU,zV,Zf,Zg,Zh,Zi,Zd,Ze,zF];refine⟨K2,(c.wi _ _ _ _ A2 ((hm.aj K1).aj K2) S2).mono ?_⟩;rintro r A3 ⟨⟨q,rfl,hq⟩,K3⟩;have ny:=(K1.trans K2).trans K3;rw[jo (by omega)]at hq
  cases q with
  |true=>
   have hlt:=hq.1 rfl;simp-implicitDefEqProofs only[go_sem,zS,↓reduceIte,Za,Zb,Zc,reduceCtorEq,ae,zU,zV,Zf,Zg,Zh,Zi,Zd,Ze,zF,Bool.not_true];exact⟨K3,hF _ A3 (hE 0 (if_neg (by rintro(h|h|h|h);exact e1 h;exact e2 h;exact h0 h;omega))) ny⟩
  |false=>
   have gx:¬y.2.toNat<2^n:=fun h=>by have:=hq.2 h;cases this
   simp-implicitDefEqProofs only[go_sem,zS,↓reduceIte,Za,Zb,Zc,reduceCtorEq,ae,zU,zV,Zf,Zg,Zh,Zi,Zd,Ze,zF,Bool.not_false];exact⟨K3,hT _ A3 (hE 2 (if_pos (.inr (.inr (.inr (by omega)))))) (by simp-implicitDefEqProofs only[go_sem,zS,↓reduceIte,Za,Zb,Zc,reduceCtorEq,ae,zU,zV,Zf,Zg,Zh,Zi,Zd,Ze]) ny⟩
theorem Gb {l:List BH} {k:Nat} (hk:k<=l.length) {e:Int} (h:BI roles p l k=e) (he:e≠0):BI roles p l l.length=e:=by
 rw[F6 (by rw[h];exact he) _ hk,h]
theorem Pb (hi:i<l.length) (h:rI n (l.take i)=0):rI n (l.take (i+1))=uf n l[i]:=by
 have app:∀(a b:List Dk),rI n (a++b)=iG (rI n a) (rI n b):=fun a b=>by
  induction a with
  |nil=>rfl
  |cons x a ih=>
   simp only[List.cons_append,rI,ih];unfold iG;split<;>rfl
 rw[List.take_succ_eq_append_getElem hi,app,h,dM];simp only[rI,iG]
 split<;>simp_all
theorem Gc (h:rI n (l.take i)≠0):rI n l=rI n (l.take i):=by
 have app:∀(a b:List Dk),rI n (a++b)=iG (rI n a) (rI n b):=fun a b=>by
  induction a with
  |nil=>rfl
  |cons x a ih=>
   simp only[List.cons_append,rI,ih];unfold iG;split<;>rfl
 conv=>lhs;rw[<-List.take_append_drop i l]
 rw[app,mA _ h]
def pI (P:Program) (ι:aJ) (k:FuncId):Prop:=∀(F:jn) (v x:Value) (roles:Int) (p:Nat->Bool) (H:Hp),br ι H->cC H v F->aS H x p->an P k #[v,.int .i64 roles,x] H fun r H'=>r=.int .i64 (fw F roles p)/\af (fun _=>False) H H'
theorem Kg {k:FuncId} (hk:aq P k (zf ι) zg 3) (c:Pa P ι):pI P ι k:=by
 intro F v x roles p H hT hv hx;obtain⟨s,b,d,a,m,ms,rfl,h1,h2,h3,h4,h5,h6⟩:=hv;obtain⟨ba,bc,rfl,_⟩:=h2.mk;obtain⟨da,dc,rfl,_⟩:=h3.mk;obtain⟨aa,ac,rfl,_⟩:=h4.mk;have hx0:=hx;obtain⟨xv,XW,rfl,hXV⟩:=hx;refine qI fun Q hQ=>?_;refine ah hk (args:=[_,_,_]) (by simp) ?_;unfold zf zg kA kB kF kC kD ke kG kH kK kL kN kO kQ kR kV kc kd kf kg kY kZ;simp-implicitDefEqProofs only[go_sem,zS,↓reduceIte,Za,Zb,Zc,reduceCtorEq,zU,zV,Zf,Zg,Zh,Zi,Zd,Ze,zF];refine ay fun H1 b3 e1 z1 B1 K1=>?_;have eB:=B1;simp only[Value.cells]at eB;simp-implicitDefEqProofs only[go_sem,zS,↓reduceIte,Za,Zb,Zc,reduceCtorEq,zU,zV,Zf,Zg,Zh,Zi,Zd,Ze,zF];refine ay fun H2 b5 e2 z2 B2 K2=>?_;have vt:Bl H2 b5 [xv]:=B2;have BK:=K2.bl eB (by simp);have fy:=K1.trans K2;have c0:cell H2 ⟨b3,0,none⟩=some s:=by rw[BK.cell];rfl
 obtain⟨n,hn⟩:∃n,n=F.st.length:=⟨_,rfl⟩
 by_cases hn0:F.st=[]
 ·have d0:((F.st.length:Int)==0)=true:=by rw[hn0];rfl
  simp-implicitDefEqProofs only[go_sem,zS,↓reduceIte,Za,Zb,Zc,reduceCtorEq,ae,zU,zV,Zf,Zg,Zh,Zi,Zd,Ze,zF,c0,h1.ax,h1.len,d0];rw[hQ];exact⟨by unfold fw;rw[if_pos hn0],fy⟩
 have hnz:0<F.st.length:=List.length_pos_iff.2 hn0;have d0:((F.st.length:Int)==0)=false:=by simp only[beq_eq_false_iff_ne,ne_eq];omega
 have JN:ms.length=F.mo.length:=h6.len;simp-implicitDefEqProofs only[go_sem,zS,↓reduceIte,Za,Zb,Zc,reduceCtorEq,ae,zU,zV,Zf,Zg,Zh,Zi,Zd,Ze,zF,c0,h1.ax,h1.len,d0];refine Kc (F:=F) (by simp-implicitDefEqProofs only[go_sem,zS,↓reduceIte,Za,Zb,Zc,reduceCtorEq,ae,zU,zV,Zf,Zg,Zh,Zi,Zd,Ze]) BK h1.ax h2.ax h3.ax h4.ax h5.ax h1.len h2.len h3.len h4.len (h5.len.trans JN) (fun Kd f' MJ=>?_) (fun hsm=>?_)
 ·simp-implicitDefEqProofs only[go_sem,zS,↓reduceIte,Za,Zb,Zc,reduceCtorEq,ae,zU,zV,Zf,Zg,Zh,Zi,Zd,Ze,MJ];rw[hQ];exact⟨by unfold fw;rw[if_neg hn0,if_pos (show wY F from Kd)],fy⟩
 have SG:∀z,iG (BI roles p F.st F.st.length) (iG (iA F.st.length F.be) (iG (iA F.st.length F.di) (iG (iA F.st.length F.sa) (iG (rI F.st.length F.mo) (Dl (jT F.be))))))=z->fw F roles p=z:=fun z h=>by
  unfold fw;rw[if_neg hn0,if_neg (show¬wY F from hsm)];exact h
 simp-implicitDefEqProofs only[go_sem,zS,↓reduceIte,Za,Zb,Zc,reduceCtorEq,ae,zU,zV,Zf,Zg,Zh,Zi,Zd,Ze,zF,c0,h1.ax,h1.len];refine aO F.st.length [44,8,7,48,6,53,60,43] rfl rfl (by omega) (by simp-implicitDefEqProofs only[go_sem,zS,↓reduceIte,Za,Zb,Zc,reduceCtorEq,ae,zU,zV,Zf,Zg,Zh,Zi,Zd,Ze]) (by simp-implicitDefEqProofs only[go_sem,zS,↓reduceIte,Za,Zb,Zc,reduceCtorEq,ae,zU,zV,Zf,Zg,Zh,Zi,Zd,Ze]) (fun i g A=>BI roles p F.st i=0/\af (fun _=>False) H2 A) ⟨rfl,af.refl _ _⟩ ?_ ?_
 ·rintro i g A hi gi gn ⟨hz,KA⟩;simp-implicitDefEqProofs only[go_sem,zS,↓reduceIte,Za,Zb,Zc,reduceCtorEq,ae,zU,zV,Zf,Zg,Zh,Zi,Zd,Ze]at gi gn;have hA:=(h1.aj fy).aj KA;obtain⟨pb,po,pc,yY,BC,hld⟩:=hA.elem i7 hi;obtain⟨y,hy⟩:∃y,y=F.st[i]:=⟨_,rfl⟩
  rw[<-hy]at hld;have iF:aR A ⟨pb,po+i*2,none⟩ 2=some #[sV y.1,.int .i64 y.2]:=hld;have hgd:F.st.getD i ([],0)=y:=by rw[List.getD_eq_getElem?_getD,List.getElem?_eq_getElem hi,hy];rfl
  have hsu:BI roles p F.st (i+1)=wX roles p (F.st.take i) y:=by rw[BI,hz,dM,hgd]
  simp-implicitDefEqProofs only[go_sem,zS,↓reduceIte,Za,Zb,Zc,reduceCtorEq,zU,zV,Zf,Zg,Zh,Zi,Zd,Ze,zF,gi,yY,ai,aB,iF];refine⟨by omega,?_⟩;refine fR [sV y.1,.int .i64 y.2] (.int .i64 (i:Int)) rfl (by simp-implicitDefEqProofs only[go_sem,zS,↓reduceIte,Za,Zb,Zc,reduceCtorEq,ae,zU,zV,Zf,Zg,Zh,Zi,Zd,Ze]) (by simp-implicitDefEqProofs only[go_sem,zS,↓reduceIte,Za,Zb,Zc,reduceCtorEq,ae,zU,zV,Zf,Zg,Zh,Zi,Zd,Ze]) rfl rfl rfl fun A1 b8 e8 z8 B8 K8=>?_;have Q6:=KA.trans K8;simp-implicitDefEqProofs only[go_sem,zS,↓reduceIte,Za,Zb,Zc,reduceCtorEq,ae,zU,zV,Zf,Zg,Zh,Zi,Zd,Ze];rw[yY]at BK h1;refine Ke c (i:=i) (x:=y) (st:=F.st) (roles:=roles) (by simp-implicitDefEqProofs only[go_sem,zS,↓reduceIte,Za,Zb,Zc,reduceCtorEq,ae,zU,zV,Zf,Zg,Zh,Zi,Zd,Ze]) (by simp-implicitDefEqProofs only[go_sem,zS,↓reduceIte,Za,Zb,Zc,reduceCtorEq,ae,zU,zV,Zf,Zg,Zh,Zi,Zd,Ze]) (by simp-implicitDefEqProofs only[go_sem,zS,↓reduceIte,Za,Zb,Zc,reduceCtorEq,ae,zU,zV,Zf,Zg,Zh,Zi,Zd,Ze]) (by simp-implicitDefEqProofs only[go_sem,zS,↓reduceIte,Za,Zb,Zc,reduceCtorEq,ae,zU,zV,Zf,Zg,Zh,Zi,Zd,Ze]) (by simp-implicitDefEqProofs only[go_sem,zS,↓reduceIte,Za,Zb,Zc,reduceCtorEq,ae,zU,zV,Zf,Zg,Zh,Zi,Zd,Ze]) (Q6.bl BK (by simp)) (Q6.bl vt (by simp)) B8 ((h1.aj fy).aj Q6) hi (by have:=hsm;omega) ((hx0.aj fy).aj Q6) (fun e f' A' he hne Pc Pd=>?_) (fun f' A' he Pd=>?_)
  ·simp-implicitDefEqProofs only[go_sem,zS,↓reduceIte,Za,Zb,Zc,reduceCtorEq,ae,zU,zV,Zf,Zg,Zh,Zi,Zd,Ze,Pc];rw[hQ];have:=Gb (k:=i+1) (l:=F.st) (by omega) (hsu.trans he) hne;exact⟨by rw[SG e (by rw[this,mA _ hne])],fy.trans (Q6.trans Pd)⟩
  ·simp-implicitDefEqProofs only[go_sem,zS,↓reduceIte,Za,Zb,Zc,reduceCtorEq,ae,zU,zV,Zf,Zg,Zh,Zi,Zd,Ze];exact⟨by rw[hsu,he],Q6.trans Pd⟩
 ·rintro g A gi ⟨hz,KA⟩;have U7:=fy.trans KA;have Q7:=KA.bl BK (by simp);have c1:cell A ⟨b3,1,none⟩=some (.slice ba F.be.length bc):=by rw[Q7.cell];rfl
  have c2:cell A ⟨b3,2,none⟩=some (.slice da F.di.length dc):=by rw[Q7.cell];rfl
  have c3:cell A ⟨b3,3,none⟩=some (.slice aa F.sa.length ac):=by rw[Q7.cell];rfl
  obtain⟨us,hus⟩:∃us:List Value,us=[.slice ba F.be.length bc,.slice da F.di.length dc,.slice aa F.sa.length ac]:=⟨_,rfl⟩
  obtain⟨ls,OI⟩:∃ls:List (List gR),ls=[F.be,F.di,F.sa]:=⟨_,rfl⟩
  have hsl:∀j<3,sN H (us.getD j undef) (ls.getD j [])/\(ls.getD j []).length<=20:=fun j hj=>by
   rw[hus,OI];have:j=0\/j=1\/j=2:=by omega
   rcases this with rfl|rfl|rfl
   ·exact⟨h2,by show F.be.length<=20;omega⟩
   ·exact⟨h3,by show F.di.length<=20;omega⟩
   ·exact⟨h4,by show F.sa.length<=20;omega⟩
  have Oy:us.length=3:=by rw[hus];rfl
  obtain⟨pF,U8⟩:∃pF:Nat->Int,∀j,pF j=(match j with|0=>0|1=>iA F.st.length F.be|2=>iG (iA F.st.length F.be) (iA F.st.length F.di)|_=>iG (iA F.st.length F.be) (iG (iA F.st.length F.di) (iA F.st.length F.sa))):=⟨_,fun _=>rfl⟩
  have Pe:∀j<3,pF j=0->pF (j+1)=iA F.st.length (ls.getD j []):=fun j hj h0=>by
   rw[U8]at h0⊢;rw[OI];have:j=0\/j=1\/j=2:=by omega
   rcases this with rfl|rfl|rfl
   ·rfl
   ·simp only at h0⊢;rw[h0];rfl
   ·simp only at h0⊢;obtain⟨e1,e2⟩:=nU.1 h0;rw[e1,e2];rfl
  have Pg:∀j<3,∀e,pF (j+1)=e->e≠0->fw F roles p=e:=fun j hj e he hne=>SG e (by
   rw[hz,dM];rw[U8]at he;have:j=0\/j=1\/j=2:=by omega
   rcases this with rfl|rfl|rfl
   ·simp only at he;rw[he,mA _ hne]
   ·simp only at he;unfold iG at he⊢
    split at he
    ·next h=>rw[if_pos h,he,if_neg hne]
    ·next h=>rw[if_neg h];exact he
   ·simp only at he;unfold iG at he⊢
    split at he
    ·next h=>
     rw[if_pos h]
     split at he
     ·next h'=>rw[if_pos h',he,if_neg hne]
     ·next h'=>rw[if_neg h'];exact he
    ·next h=>rw[if_neg h];exact he)
  simp-implicitDefEqProofs only[go_sem,zS,↓reduceIte,Za,Zb,Zc,reduceCtorEq,zU,zV,Zf,Zg,Zh,Zi,Zd,Ze,zF,c1,c2,c3];refine aF fun A1 b83 e3 z3 B83 K83=>?_;have XT:Bl A1 b83 us:=by rw[hus];exact B83
  have SH:=U7.trans K83;have K21:=KA.trans K83;clear hus B83 OI;simp-implicitDefEqProofs only[go_sem,zS,↓reduceIte,Za,Zb,Zc,reduceCtorEq,ae,zU,zV,Zf,Zg,Zh,Zi,Zd,Ze,zF];refine aO 3 [86,10,11,6,95,85] rfl rfl (by omega) (by simp-implicitDefEqProofs only[go_sem,zS,↓reduceIte,Za,Zb,Zc,reduceCtorEq,ae,zU,zV,Zf,Zg,Zh,Zi,Zd,Ze]) (by simp-implicitDefEqProofs only[go_sem,zS,↓reduceIte,Za,Zb,Zc,reduceCtorEq,ae,zU,zV,Zf,Zg,Zh,Zi,Zd,Ze]) (fun j g X=>pF j=0/\af (fun _=>False) A1 X) ⟨(U8 0).trans rfl,af.refl _ _⟩ ?_ ?_
  ·rintro j g2 X hj gi gn ⟨hpj,KX⟩;simp-implicitDefEqProofs only[go_sem,zS,↓reduceIte,Za,Zb,Zc,reduceCtorEq,ae,zU,zV,Zf,Zg,Zh,Zi,Zd,Ze]at gi gn;obtain⟨XU,vu⟩:=hsl j hj;have ui:=SH.trans KX;have UN:cell X ⟨b83,j,none⟩=some (us.getD j undef):=by
    rw[(KX.bl XT (by simp)).cell,List.getElem?_eq_getElem (by omega),List.getD_eq_getElem?_getD,List.getElem?_eq_getElem (by omega)];rfl
   have cs0:cell X ⟨b3,0,none⟩=some s:=by rw[((K21.trans KX).bl BK (by simp)).cell];rfl
   simp-implicitDefEqProofs only[go_sem,zS,↓reduceIte,Za,Zb,Zc,reduceCtorEq,ae,zU,zV,Zf,Zg,Zh,Zi,Zd,Ze,zF,gi,ai,UN,cs0,h1.ax,h1.len];refine⟨by omega,(c.prs F.st.length (ls.getD j []) _ X (XU.aj ui) (by omega) (by omega)).mono ?_⟩;rintro r X1 ⟨rfl,SI⟩;rw[ae]
   by_cases hne:iA F.st.length (ls.getD j [])=0
   ·have dn:((iA F.st.length (ls.getD j []))!=0)=false:=by rw[hne];rfl
    simp-implicitDefEqProofs only[go_sem,zS,↓reduceIte,Za,Zb,Zc,reduceCtorEq,ae,zU,zV,Zf,Zg,Zh,Zi,Zd,Ze,zF,dn];exact⟨by rw[Pe j hj hpj];exact hne,KX.trans SI⟩
   ·have dn:((iA F.st.length (ls.getD j []))!=0)=true:=bne_iff_ne.2 hne;simp-implicitDefEqProofs only[go_sem,zS,↓reduceIte,Za,Zb,Zc,reduceCtorEq,ae,zU,zV,Zf,Zg,Zh,Zi,Zd,Ze,zF,dn];rw[hQ];exact⟨by rw[Pg j hj _ (Pe j hj hpj) hne],ui.trans SI⟩
  ·rintro g2 X gi ⟨UY,KX⟩;have Dp:=U8 3;rw[UY]at Dp;have Dp:iG (iA F.st.length F.be) (iG (iA F.st.length F.di) (iA F.st.length F.sa))=0:=Dp.symm;obtain⟨U9,Dp⟩:=nU.1 Dp;obtain⟨XV,XX⟩:=nU.1 Dp;have ui:=SH.trans KX;have XY:=K21.trans KX;have B3X:=XY.bl BK (by simp);have c4:cell X ⟨b3,4,none⟩=some m:=by rw[B3X.cell];rfl
   simp-implicitDefEqProofs only[go_sem,zS,↓reduceIte,Za,Zb,Zc,reduceCtorEq,ae,zU,zV,Zf,Zg,Zh,Zi,Zd,Ze,zF,c4,h5.ax,h5.len];refine aO ms.length [102,13,127,6,101] rfl rfl (by omega) (by simp-implicitDefEqProofs only[go_sem,zS,↓reduceIte,Za,Zb,Zc,reduceCtorEq,ae,zU,zV,Zf,Zg,Zh,Zi,Zd,Ze]) (by simp-implicitDefEqProofs only[go_sem,zS,↓reduceIte,Za,Zb,Zc,reduceCtorEq,ae,zU,zV,Zf,Zg,Zh,Zi,Zd,Ze]) (fun i g Y=>rI F.st.length (F.mo.take i)=0/\af (fun _=>False) X Y) ⟨rfl,af.refl _ _⟩ ?_ ?_
   ·rintro i g3 Y hi gi gn ⟨SJ,KY⟩;simp-implicitDefEqProofs only[go_sem,zS,↓reduceIte,Za,Zb,Zc,reduceCtorEq,ae,zU,zV,Zf,Zg,Zh,Zi,Zd,Ze]at gi gn;have Ph:=ui.trans KY;have AE:i<F.mo.length:=by omega
    obtain⟨pb,po,pc,yY,BC,hld⟩:=(h5.aj Ph).elem lG hi;obtain⟨y,hy⟩:∃y,y=ms[i]:=⟨_,rfl⟩
    obtain⟨w,hw⟩:∃w,w=F.mo[i]:=⟨_,rfl⟩
    obtain⟨r1,r2⟩:=h6.at_ i hi AE;rw[<-hy,<-hw]at r1 r2;rw[<-hy]at hld;have iF:aR Y ⟨pb,po+i*2,none⟩ 2=some #[.int .i64 y.1,ug y]:=hld;have hms:=Pb AE SJ;rw[<-hw]at hms;simp-implicitDefEqProofs only[go_sem,zS,↓reduceIte,Za,Zb,Zc,reduceCtorEq,zU,zV,Zf,Zg,Zh,Zi,Zd,Ze,zF,gi,yY,ai,aB,iF];refine⟨by omega,?_⟩;refine bB [.int .i64 y.1,ug y] (by simp-implicitDefEqProofs only[go_sem,zS,↓reduceIte,Za,Zb,Zc,reduceCtorEq,ae,zU,zV,Zf,Zg,Zh,Zi,Zd,Ze]) rfl rfl rfl fun Y1 b13 e13 z13 qM mf=>?_;have SK:=Ph.trans mf;simp-implicitDefEqProofs only[go_sem,zS,↓reduceIte,Za,Zb,Zc,reduceCtorEq,ae,zU,zV,Zf,Zg,Zh,Zi,Zd,Ze];refine Kf c (n:=F.st.length) (x:=y) (y:=w) (by simp-implicitDefEqProofs only[go_sem,zS,↓reduceIte,Za,Zb,Zc,reduceCtorEq,ae,zU,zV,Zf,Zg,Zh,Zi,Zd,Ze]) (by simp-implicitDefEqProofs only[go_sem,zS,↓reduceIte,Za,Zb,Zc,reduceCtorEq,ae,zU,zV,Zf,Zg,Zh,Zi,Zd,Ze]) ((XY.trans (KY.trans mf)).bl BK (by simp)) qM h1.ax h1.len (by omega) r1 (r2.aj SK) (fun f' Y2 he Pc SL=>?_) (fun f' Y2 he SL=>?_)
    ·simp-implicitDefEqProofs only[go_sem,zS,↓reduceIte,Za,Zb,Zc,reduceCtorEq,ae,zU,zV,Zf,Zg,Zh,Zi,Zd,Ze,Pc];rw[hQ];have h2:rI F.st.length (F.mo.take (i+1))=2:=hms.trans he;have h3:=Gc (l:=F.mo) (i:=i+1) (by rw[h2];decide);exact⟨by rw[SG 2 (by rw[hz,dM,U9,dM,XV,dM,XX,dM,h3,h2,mA _ (by decide)])],SK.trans SL⟩
    ·simp-implicitDefEqProofs only[go_sem,zS,↓reduceIte,Za,Zb,Zc,reduceCtorEq,ae,zU,zV,Zf,Zg,Zh,Zi,Zd,Ze];exact⟨hms.trans he,(KY.trans mf).trans SL⟩
   ·rintro g3 Y gi ⟨SJ,KY⟩;rw[JN,List.take_length]at SJ;have Ph:=ui.trans KY;have SM:=(XY.trans KY).bl BK (by simp);have cy0:cell Y ⟨b3,0,none⟩=some s:=by rw[SM.cell];rfl
    have cy1:cell Y ⟨b3,1,none⟩=some (.slice ba F.be.length bc):=by rw[SM.cell];rfl
    simp-implicitDefEqProofs only[go_sem,zS,↓reduceIte,Za,Zb,Zc,reduceCtorEq,ae,zU,zV,Zf,Zg,Zh,Zi,Zd,Ze,zF,cy0,cy1,h1.ax,h1.len];refine(c.nw (F.st.length:Int) F.be _ Y (hT.ag Ph) (h2.aj Ph) (by omega)).mono ?_;rintro r Y1 ⟨hr,Pj,-⟩;have hok:∀q∈F.be,qW (F.st.length:Int) q:=fun q hq=>(OW.1 (MI.1 U9 q hq)).1;rw[ae];rcases hr with⟨hb,_⟩|⟨_,hb,_⟩|⟨_,_,hA,rfl⟩|⟨_,_,hA,pv,rfl,_⟩
    ·unfold ph at hb;omega
    ·exact absurd hok hb
    ·simp-implicitDefEqProofs only[go_sem,zS,↓reduceIte,Za,Zb,Zc,reduceCtorEq,ae,zU,zV,Zf,Zg,Zh,Zi,Zd,Ze,zF];rw[hQ];exact⟨by rw[SG 16 (by rw[hz,dM,U9,dM,XV,dM,XX,dM,SJ,dM,OY hA])],Ph.trans Pj⟩
    ·simp-implicitDefEqProofs only[go_sem,zS,↓reduceIte,Za,Zb,Zc,reduceCtorEq,ae,zU,zV,Zf,Zg,Zh,Zi,Zd,Ze,zF];rw[hQ];exact⟨by rw[SG 0 (by rw[hz,dM,U9,dM,XV,dM,XX,dM,SJ,dM,F7 hA])],Ph.trans Pj⟩
end Go.Mg
namespace Go.Mg
open Go Go.RowKit
end Go.Mg
namespace Go.Mg
open Go Go.RowKit
end Go.Mg
namespace Go.Mg
open Go Go.RowKit
noncomputable def okF (F:jn):Bool:=decide (fw F 63 (fun _=>false)=0)
end Go.Mg
