/- Lemmas of ours. No conditions. -/
import Derived.Test.YteeemadonfcliabGreatDoorMgV5
open Nat renaming reduceEqDiff→Za,reduceAdd→Zb,reduceMul→Zc,reduceLeDiff→Zd,reduceLT→Ze
open Int renaming reduceBEq→Zf,reduceBNe→Zg,reduceLE→Zh,reduceLT→Zi
set_option linter.all false
set_option maxRecDepth 100000
namespace Go.Mg
open Go Go.RowKit
def CF (ι:aC):S:=
 (kY [kG 20 0 3,kD 21 20,kL 22 21,kU 23 (.cm .gtr .i64 (.t 22) (.c (.int .i64 10))),kF 24 23,kT 25 24 false (.fa 1 (.v 3)),kT 26 24 false (.ld (.t 25)),kT 27 24 false (.m (.lenl (.t 26))),kT 28 24 false (.fa 2 (.v 3)),kT 29 24 false (.ld (.t 28)),kT 30 24 false (.m (.lenl (.t 29))),kT 31 24 false (.fa 3 (.v 3)),kT 32 24 false (.ld (.t 31)),kT 33 24 false (.m (.lenl (.t 32))),kT 34 24 false (.fa 4 (.v 3)),kT 35 24 false (.ld (.t 34)),kT 36 24 false (.m (.lenl (.t 35))),kT 37 24 false (.m (.mxs (.t 27) [.t 30,.t 33,.t 36])),kT 38 24 false (.cm .gtr .i64 (.t 37) (.c (.int .i64 20))),kV 39 (.pick (.t 24) (.c (.bool true)) (.t 38))] (.ite (.v 39) (kY [kC 6 (.int .i64 3)] .ret) .skip))
def CG (ι:aC):S:=
 (kY [kG 49 0 8,kD 50 49,kc 51 (kg (ι.f 75) [.t 50]),kU 52 (.not (.t 51)),kB 48 52] (.ite (.v 48) (kY [kC 6 (.int .i64 9)] .ret) (kY [kG 54 0 3,kD 55 54,kA 56 7,kU 57 (.m (.sls 2 (.t 55) .none (.some (.t 56)))),kU 58 (.m (.mkf (ι.f 305) [] [.v 8])),kc 59 (kg (ι.f 302) [.t 57,.t 58]),kB 53 59] (.ite (.v 53) (kY [kC 6 (.int .i64 5)] .ret) (kY [kG 61 1 8,kD 62 61,kU 63 (.cm .lss .i64 (.t 62) (.c (.int .i64 1))),kF 64 63,kT 65 64 false (.fa 1 (.v 8)),kT 66 64 false (.ld (.t 65)),kS 67 64 false 1,kT 68 64 false (.cm .gtr .i64 (.t 66) (.t 67)),kU 69 (.pick (.t 64) (.c (.bool true)) (.t 68)),kF 70 69,kT 71 70 false (.m (.ldn 1 (.v 5))),kT 72 70 false (.fa 1 (.v 8)),kT 73 70 false (.ld (.t 72)),.ge (.t 74) (.t 70) false (kg (ι.f 130) [.t 71,.t 73]),kU 75 (.pick (.t 70) (.c (.bool true)) (.t 74)),kB 60 75] (.ite (.v 60) (kY [kC 6 (.int .i64 10)] .ret) .skip))))))
def CH (ι:aC):S:=
 (.seq (.dr (kW 105 (.fa 0 (.v 13)) (kW 106 (.ld (.t 105)) (kW 107 (.cm .lss .i64 (.t 106) (.c (.int .i64 1))) (kW 108 (.mv (.t 107)) (.px (.t 109) (.some (.t 108,false)) (.fa 0 (.v 13)) (.px (.t 110) (.some (.t 108,false)) (.ld (.t 109)) (.px (.t 111) (.some (.t 108,false)) (.cm .gtr .i64 (.t 110) (.c (.int .i64 10))) (kW 112 (.pick (.t 108) (.c (.bool true)) (.t 111)) (kW 113 (.mv (.t 112)) (.px (.t 114) (.some (.t 113,false)) (.fa 1 (.v 13)) (.px (.t 115) (.some (.t 113,false)) (.m (.ldn 1 (.t 114))) (.wcons (.t 116) (.some (.t 113,false)) (kg (ι.f 133) [.t 115]) (kW 117 (.pick (.t 113) (.c (.bool true)) (.t 116)) (kW 118 (.mv (.t 117)) (.px (.t 119) (.some (.t 118,false)) (.fa 1 (.v 13)) (.px (.t 120) (.some (.t 118,false)) (.m (.ldn 1 (.t 119))) (.px (.t 121) (.some (.t 118,false)) (.fa 0 (.v 3)) (.px (.t 122) (.some (.t 118,false)) (.ld (.t 121)) (.px (.t 123) (.some (.t 118,false)) (.m (.lenl (.t 122))) (.wcons (.t 124) (.some (.t 118,false)) (kg (ι.f 306) [.t 123]) (.wcons (.t 125) (.some (.t 118,false)) (kg (ι.f 141) [.t 120,.t 124]) (.px (.t 126) (.some (.t 118,false)) (.not (.t 125)) (kX 127 (.pick (.t 118) (.c (.bool true)) (.t 126)) .done)) .wnil) .wnil)))))))) .wnil))))))))))))) (.ite (.v 127) (kY [kC 6 (.int .i64 2)] .ret) .skip))
def CI (ι:aC):S:=
 kY [kR 3 (ι.t 296) 0,kR 5 (ι.t 128) 2,kC 6 (.int .i64 0)] (.seq (kY [kG 16 0 3,kD 17 16,kL 18 17,kV 19 (.cm .eql .i64 (.t 18) (.c (.int .i64 0)))] (.ite (.v 19) (kY [kC 6 (.int .i64 4)] .ret) .skip)) (.seq (CF ι) (.seq (kY [kG 40 0 3,kV 41 (.ld (.t 40)),kO 42 41,kC 43 (.int .i64 0)] (.blk 0 (.loop (kY [kH 44 43 42] (.seq (.ite (.v 44) .skip (.exit 0)) (.seq (.blk 1 (kY [kA 45 43,kK 46 2 41 43,kN 47 2 46,kd 8 (.new (ι.t 297) #[.string ⟨#[]⟩,.int .i64 0]),kB 7 45,kf (.stn 2 (.v 8) (.t 47))] (.blk 2 (CG ι)))) (.reg [ke 76 43,kB 43 76]))))))) (.seq (kY [kG 77 1 3,kD 78 77,kG 79 2 3,kD 80 79,kG 81 3 3,kD 82 81,kd 83 (.bF (ι.t 235) 1 3 [.t 78,.t 80,.t 82]),kO 84 83,kC 85 (.int .i64 0)] (.blk 3 (.loop (kY [kH 86 85 84] (.seq (.ite (.v 86) .skip (.exit 3)) (.seq (.blk 4 (kY [kK 87 1 83 85,kD 88 87,kB 10 88] (kY [kA 89 10,kG 90 0 3,kD 91 90,kL 92 91,kc 93 (kg (ι.f 284) [.t 89,.t 92]),kB 11 93] (kY [kA 94 11,kV 95 (.cm .neq .i64 (.t 94) (.c (.int .i64 0)))] (.ite (.v 95) (kY [kA 96 11,kB 6 96] .ret) .skip))))) (.reg [ke 97 85,kB 85 97]))))))) (.seq (kY [kG 98 4 3,kV 99 (.ld (.t 98)),kO 100 99,kC 101 (.int .i64 0)] (.blk 5 (.loop (kY [kH 102 101 100] (.seq (.ite (.v 102) .skip (.exit 5)) (.seq (.blk 6 (kY [kK 103 2 99 101,kN 104 2 103,kd 13 (.new (ι.t 298) #[.int .i64 0,kZ]),kf (.stn 2 (.v 13) (.t 104))] (CH ι))) (.reg [ke 128 101,kB 101 128]))))))) (kY [kG 130 0 3,kD 131 130,kL 132 131,kG 133 1 3,kD 134 133,kc 135 (kg (ι.f 201) [.t 132,.t 134]),kF 129 135,kQ 136 129 0,kQ 137 129 1,kF 14 136,kB 15 137] (kY [kA 138 15,kB 6 138] .ret)))))))
def CJ:List RV:=[.t 6]
structure Tz (P:Program) (ι:aC):Prop where
 va:rY P (ι.f 75)
 con:iA cL P (ι.f 302)
 c1:rZ P (ι.f 305)
 has:dT P (ι.f 130)
 em:fX P (ι.f 133)
 wi:gR P (ι.f 141)
 bel:je P (ι.f 306)
 prs:oy P (ι.f 284)
 nw:rH P ι (ι.f 201)
variable {P:Program} {ι:aC} {f:Fr} {A:Hp} {b3 i n:Nat} {s r1 r2 r3 r4:Value} {m:UInt64} {Qb:Ex->Fr->Hp->Prop} {roles:Int} {p:Nat->Bool} {l:List yi}
theorem Ot {b d a m:Value} {F:dz} {n0 n1 n2 n3 n4:Nat} (h3:f 3=.pointer (some ⟨b3,0,none⟩)) (B:Bl A b3 [s,b,d,a,m]) (i0:aq s) (i1:aq b) (i2:aq d) (i3:aq a) (i4:aq m) (l0:aO s=n0) (l1:aO b=n1) (l2:aO d=n2) (l3:aO a=n3) (l4:aO m=n4)
  (hT:(10<n0\/20<n1\/20<n2\/20<n3\/20<n4)->∀f',f' 6=.int .i64 3->Qb .r f' A) (hF:¬(10<n0\/20<n1\/20<n2\/20<n3\/20<n4)->Qb .n (bw f 39 (.bool false)) A):vc P (CF ι) Qb f A:=by
 unfold CF kF kC kD kG kL kT kU kV kY;have c0:cell A ⟨b3,0,none⟩=some s:=by rw[B.cell];rfl
 have c1:cell A ⟨b3,1,none⟩=some b:=by rw[B.cell];rfl
 have c2:cell A ⟨b3,2,none⟩=some d:=by rw[B.cell];rfl
 have c3:cell A ⟨b3,3,none⟩=some a:=by rw[B.cell];rfl
 have c4:cell A ⟨b3,4,none⟩=some m:=by rw[B.cell];rfl
 by_cases Zu:(n0:Int)>10
 ·have d1:decide ((n0:Int)>10)=true:=decide_eq_true Zu;simp-implicitDefEqProofs only[go_sem,zS,↓reduceIte,Za,Zb,Zc,reduceCtorEq,ae,zU,zV,Zf,Zg,Zh,Zi,Zd,Ze,zF,h3,c0,i0,l0,d1];exact hT (.inl (by omega)) _ (by simp-implicitDefEqProofs only[go_sem,zS,↓reduceIte,Za,Zb,Zc,reduceCtorEq,ae,zU,zV,Zf,Zg,Zh,Zi,Zd,Ze])
 ·have d1:decide ((n0:Int)>10)=false:=decide_eq_false Zu;obtain⟨mx,hmx⟩:∃mx,mx=QK (n1:Int) [(n2:Int),(n3:Int),(n4:Int)]:=⟨_,rfl⟩
  have Ou:mx>20↔(20<n1\/20<n2\/20<n3\/20<n4):=by
   rw[hmx];simp only[QK]
   split<;>split<;>split<;>omega
  simp only[QK]at hmx;have o2:∀v,v=d\/v=a\/v=m->isInt (.int .i64 (aO v:Int)):=fun _ _=>trivial
  by_cases hb:mx>20
  ·have d2:decide (mx>20)=true:=decide_eq_true hb;simp-implicitDefEqProofs only[go_sem,zS,↓reduceIte,Za,Zb,Zc,reduceCtorEq,ae,zU,zV,Zf,Zg,Zh,Zi,Zd,Ze,zF,h3,c0,c1,c2,c3,c4,i0,i1,i2,i3,i4,l0,l1,l2,l3,l4,d1,kindOf,<-hmx,d2];exact hT (by have:=Ou.1 hb;omega) _ (by simp-implicitDefEqProofs only[go_sem,zS,↓reduceIte,Za,Zb,Zc,reduceCtorEq,ae,zU,zV,Zf,Zg,Zh,Zi,Zd,Ze])
  ·have d2:decide (mx>20)=false:=decide_eq_false hb;simp-implicitDefEqProofs only[go_sem,zS,↓reduceIte,Za,Zb,Zc,reduceCtorEq,ae,zU,zV,Zf,Zg,Zh,Zi,Zd,Ze,zF,h3,c0,c1,c2,c3,c4,i0,i1,i2,i3,i4,l0,l1,l2,l3,l4,d1,kindOf,<-hmx,d2];exact hF (fun h=>hb (Ou.2 (by omega)))
theorem Ov (c:Tz P ι) {b5 b8:Nat} {x:wx} {st:List wx} {xv:Value} (h1:f 1=.int .i64 roles) (h3:f 3=.pointer (some ⟨b3,0,none⟩)) (h5:f 5=.pointer (some ⟨b5,0,none⟩)) (h7:f 7=.int .i64 (i:Int)) (h8:f 8=.pointer (some ⟨b8,0,none⟩))
  (B3:Bl A b3 [s,r1,r2,r3,r4]) (B5:Bl A b5 [xv]) (B8:Bl A b8 (cL x)) (hs:bk cL 2 A s st) (hi:i<st.length) (hl:st.length<=1000000) (hx:aQ A (.agg #[xv]) p)
  (hT:∀e f' A',pP roles p (st.take i) x=e->e≠0->f' 6=.int .i64 e->af (fun _=>False) A A'->Qb .r f' A') (hF:∀f' A',pP roles p (st.take i) x=0->af (fun _=>False) A A'->Qb .n f' A'):vc P (CG ι) Qb f A:=by
 unfold CG kA kB kF kC kD kG kS kT kU kc kg kY;have c8:cell A ⟨b8,0,none⟩=some (sV x.1):=by rw[B8.cell];rfl
 simp-implicitDefEqProofs only[go_sem,zS,↓reduceIte,Za,Zb,Zc,reduceCtorEq,ae,zU,zV,Zf,Zg,Zh,Zi,Zd,Ze,zF,h8,c8];refine(c.va x.1 A).mono ?_;rintro r A1 ⟨rfl,K1⟩;rw[ae]
 cases hv:cI x.1 with
 |false=>
  simp-implicitDefEqProofs only[go_sem,zS,↓reduceIte,Za,Zb,Zc,reduceCtorEq,ae,zU,zV,Zf,Zg,Zh,Zi,Zd,Ze,zF,Bool.not_false];exact hT 9 _ A1 (by unfold pP;rw[if_pos hv]) (by omega) (by simp-implicitDefEqProofs only[go_sem,zS,↓reduceIte,Za,Zb,Zc,reduceCtorEq,ae,zU,zV,Zf,Zg,Zh,Zi,Zd,Ze]) K1
 |true=>
  have Ri:=K1.bl B3 (by simp);have B81:=K1.bl B8 (by simp);have hs1:=hs.ai K1;have c30:cell A1 ⟨b3,0,none⟩=some s:=by rw[Ri.cell];rfl
  have hS:=hs1.WN fg (n:=i) (by omega);obtain⟨va,vc,rfl,hcap⟩:=hs1.mk;obtain⟨w,hw⟩:∃w,w=Ax (.slice va st.length vc) 2 none (some (i:Int)):=⟨_,rfl⟩
  rw[<-hw]at hS;have HI:Value.slice (if vc=0 then va else Option.map (fun x=>x) va) i vc=w:=by
   rw[hw,FD];simp[mg,Aw,Addr.add]
  have ans:Ol P cL (fun y:wx=>decide (y.1=x.1)) (st.take i) (ι.f 305) #[] #[.pointer (some ⟨b8,0,none⟩)] A1:=⟨c.c1.1,fun y _ A2 K2=>by
   have:=c.c1.2 y x b8 A2 (K2.bl B81 (by simp));simpa using this⟩
  simp-implicitDefEqProofs only[go_sem,zS,↓reduceIte,Za,Zb,Zc,reduceCtorEq,ae,zU,zV,Zf,Zg,Zh,Zi,Zd,Ze,zF,h3,h7,h8,c30,Bool.not_true];refine⟨by omega,?_⟩;rw[HI];refine(c.con (st.take i) _ w _ _ _ A1 hS (by rw[List.length_take];omega) ans).mono ?_;rintro r A2 ⟨rfl,K2⟩;have cG:=K1.trans K2;rw[ae]
  cases ha:(st.take i).any fun y=>decide (y.1=x.1)with
  |true=>
   simp-implicitDefEqProofs only[go_sem,zS,↓reduceIte,Za,Zb,Zc,reduceCtorEq,ae,zU,zV,Zf,Zg,Zh,Zi,Zd,Ze,zF];exact hT 5 _ A2 (by unfold pP;rw[if_neg (by rw[hv];simp),if_pos ha]) (by omega) (by simp-implicitDefEqProofs only[go_sem,zS,↓reduceIte,Za,Zb,Zc,reduceCtorEq,ae,zU,zV,Zf,Zg,Zh,Zi,Zd,Ze]) cG
  |false=>
   have B82:=cG.bl B8 (by simp);have TA:=cG.bl B5 (by simp);have p1:cell A2 ⟨b8,1,none⟩=some (.int .i64 x.2):=by rw[B82.cell];rfl
   have hE:∀z,(if x.2<1\/roles<x.2\/bS p x.2=true then(10:Int)else 0)=z->pP roles p (st.take i) x=z:=fun z h=>by
    unfold pP;rw[if_neg (by rw[hv];simp),if_neg (by rw[ha];simp)];exact h
   by_cases e1:x.2<1
   ·have d1:decide (x.2<1)=true:=decide_eq_true e1;simp-implicitDefEqProofs only[go_sem,zS,↓reduceIte,Za,Zb,Zc,reduceCtorEq,ae,zU,zV,Zf,Zg,Zh,Zi,Zd,Ze,zF,h8,p1,d1];exact hT 10 _ A2 (hE 10 (if_pos (.inl e1))) (by omega) (by simp-implicitDefEqProofs only[go_sem,zS,↓reduceIte,Za,Zb,Zc,reduceCtorEq,ae,zU,zV,Zf,Zg,Zh,Zi,Zd,Ze]) cG
   ·have d1:decide (x.2<1)=false:=decide_eq_false e1
    by_cases e2:x.2>roles
    ·have d2:decide (x.2>roles)=true:=decide_eq_true e2;simp-implicitDefEqProofs only[go_sem,zS,↓reduceIte,Za,Zb,Zc,reduceCtorEq,ae,zU,zV,Zf,Zg,Zh,Zi,Zd,Ze,zF,h1,h8,p1,d1,d2];exact hT 10 _ A2 (hE 10 (if_pos (.inr (.inl e2)))) (by omega) (by simp-implicitDefEqProofs only[go_sem,zS,↓reduceIte,Za,Zb,Zc,reduceCtorEq,ae,zU,zV,Zf,Zg,Zh,Zi,Zd,Ze]) cG
    ·have d2:decide (x.2>roles)=false:=decide_eq_false e2;simp-implicitDefEqProofs only[go_sem,zS,↓reduceIte,Za,Zb,Zc,reduceCtorEq,ae,zU,zV,Zf,Zg,Zh,Zi,Zd,Ze,zF,h1,h5,h8,p1,d1,d2,TA.aD 1 rfl];refine(c.has p _ x.2 A2 (hx.ai cG)).mono ?_;rintro r A3 ⟨rfl,K3⟩;have ew:=cG.trans K3;rw[ae]
     cases hm:bS p x.2 with
     |true=>
      simp-implicitDefEqProofs only[go_sem,zS,↓reduceIte,Za,Zb,Zc,reduceCtorEq,ae,zU,zV,Zf,Zg,Zh,Zi,Zd,Ze,zF];exact hT 10 _ A3 (hE 10 (if_pos (.inr (.inr hm)))) (by omega) (by simp-implicitDefEqProofs only[go_sem,zS,↓reduceIte,Za,Zb,Zc,reduceCtorEq,ae,zU,zV,Zf,Zg,Zh,Zi,Zd,Ze]) ew
     |false=>
      simp-implicitDefEqProofs only[go_sem,zS,↓reduceIte,Za,Zb,Zc,reduceCtorEq,ae,zU,zV,Zf,Zg,Zh,Zi,Zd,Ze,zF];exact hF _ A3 (hE 0 (if_neg (by rw[hm];rintro(h|h|h);exact e1 h;exact e2 h;cases h))) ew
theorem iB (hn:n<=64):(∀j,bt m j=true->decide (j<n)=true)↔m.toNat<2^n:=by
 unfold bt
 constructor
 ·intro h;apply Classical.byContradiction;intro jt;have jt:2^n<=m.toNat:=by omega
  obtain⟨i,hi,hb⟩:=Nat.exists_ge_and_testBit_of_ge_two_pow jt;have:=h i hb;simp at this;omega
 ·intro h j hj;apply decide_eq_true;apply Classical.byContradiction;intro jt;have:m.toNat<2^j:=Nat.lt_of_lt_of_le h (Nat.pow_le_pow_right (by omega) (by omega));rw[Nat.testBit_lt_two_pow this]at hj;cases hj
theorem wO:(∀n,bt m n=false)↔m=0:=by
 constructor
 ·intro h;exact vu fun k _=>by rw[h k,eO]
 ·rintro rfl n;exact eO n
theorem Ow (c:Tz P ι) {bm:Nat} {x:MV} {y:yi} (h3:f 3=.pointer (some ⟨b3,0,none⟩)) (h13:f 13=.pointer (some ⟨bm,0,none⟩))
  (B3:Bl A b3 [s,r1,r2,r3,r4]) (Bm:Bl A bm (dp x)) (i0:aq s) (l0:aO s=n) (hn:n<=10) (hx:x.1=y.1) (hm:aQ A (.agg #[iK x]) (bt y.2))
  (hT:∀f' A',pQ n y=2->f' 6=.int .i64 2->af (fun _=>False) A A'->Qb .r f' A') (hF:∀f' A',pQ n y=0->af (fun _=>False) A A'->Qb .n f' A'):vc P (CH ι) Qb f A:=by
 unfold CH kC kW kX kg kY;have m0:cell A ⟨bm,0,none⟩=some (.int .i64 y.1):=by rw[Bm.cell,<-hx];rfl
 have mS:aR A ⟨bm,1,none⟩ 1=some #[iK x]:=by
  have:=Bm.aR (o:=1) (n:=1) (by simp[dp]);simpa[dp]using this
 have c30:cell A ⟨b3,0,none⟩=some s:=by rw[B3.cell];rfl
 have hE:∀z,(if y.1<1\/10<y.1\/y.2=0\/2^n<=y.2.toNat then(2:Int)else 0)=z->pQ n y=z:=fun z h=>h;rw[jz];refine bj (fun _=>False) ?_
 by_cases e1:y.1<1
 ·have d1:decide (y.1<1)=true:=decide_eq_true e1;simp-implicitDefEqProofs only[go_sem,zS,↓reduceIte,Za,Zb,Zc,reduceCtorEq,ae,zU,zV,Zf,Zg,Zh,Zi,Zd,Ze,zF,h3,h13,m0,d1];exact hT _ A (hE 2 (if_pos (.inl e1))) (by simp-implicitDefEqProofs only[go_sem,zS,↓reduceIte,Za,Zb,Zc,reduceCtorEq,ae,zU,zV,Zf,Zg,Zh,Zi,Zd,Ze]) (af.refl _ _)
 have d1:decide (y.1<1)=false:=decide_eq_false e1
 by_cases e2:y.1>10
 ·have d2:decide (y.1>10)=true:=decide_eq_true e2;simp-implicitDefEqProofs only[go_sem,zS,↓reduceIte,Za,Zb,Zc,reduceCtorEq,ae,zU,zV,Zf,Zg,Zh,Zi,Zd,Ze,zF,h3,h13,m0,d1,d2];exact hT _ A (hE 2 (if_pos (.inr (.inl e2)))) (by simp-implicitDefEqProofs only[go_sem,zS,↓reduceIte,Za,Zb,Zc,reduceCtorEq,ae,zU,zV,Zf,Zg,Zh,Zi,Zd,Ze]) (af.refl _ _)
 have d2:decide (y.1>10)=false:=decide_eq_false e2;obtain⟨u,W,hu,hV⟩:=hm;simp only[Value.agg.injEq,Array.mk.injEq,List.cons.injEq,and_true]at hu;have hm:aQ A (.agg #[iK x]) (bt y.2):=⟨u,W,by rw[hu],hV⟩
 rw[<-hu]at hV;simp-implicitDefEqProofs only[go_sem,zS,↓reduceIte,Za,Zb,Zc,reduceCtorEq,ae,zU,zV,Zf,Zg,Zh,Zi,Zd,Ze,zF,h3,h13,m0,aB,mS,d1,d2];refine(c.em _ _ W A hV).mono ?_;rintro r A1 ⟨rfl,K1⟩
 by_cases e3:W=[]
 ·have d3:decide (W=[])=true:=decide_eq_true e3;simp-implicitDefEqProofs only[go_sem,zS,↓reduceIte,Za,Zb,Zc,reduceCtorEq,ae,zU,zV,Zf,Zg,Zh,Zi,Zd,Ze,zF,h13,d3];have h0:y.2=0:=wO.1 (hV.qf.1 e3);exact⟨K1,hT _ A1 (hE 2 (if_pos (.inr (.inr (.inl h0))))) (by simp-implicitDefEqProofs only[go_sem,zS,↓reduceIte,Za,Zb,Zc,reduceCtorEq,ae,zU,zV,Zf,Zg,Zh,Zi,Zd,Ze]) K1⟩
 ·have d3:decide (W=[])=false:=decide_eq_false e3;have h0:¬y.2=0:=fun h=>e3 (hV.qf.2 (wO.2 h));have Bm1:=K1.bl Bm (by simp);have Ri:=K1.bl B3 (by simp);have mS1:aR A1 ⟨bm,1,none⟩ 1=some #[iK x]:=by
   have:=Bm1.aR (o:=1) (n:=1) (by simp[dp]);simpa[dp]using this
  have c31:cell A1 ⟨b3,0,none⟩=some s:=by rw[Ri.cell];rfl
  simp-implicitDefEqProofs only[go_sem,zS,↓reduceIte,Za,Zb,Zc,reduceCtorEq,ae,zU,zV,Zf,Zg,Zh,Zi,Zd,Ze,zF,h3,h13,d3,aB,mS1,c31,i0,l0];refine⟨K1,(c.bel n A1 (by omega)).mono ?_⟩;rintro r A2 ⟨S2,K2,_⟩;simp-implicitDefEqProofs only[go_sem,zS,↓reduceIte,Za,Zb,Zc,reduceCtorEq,ae,zU,zV,Zf,Zg,Zh,Zi,Zd,Ze,zF];refine⟨K2,(c.wi _ _ _ _ A2 ((hm.ai K1).ai K2) S2).mono ?_⟩;rintro r A3 ⟨⟨q,rfl,hq⟩,K3⟩;have ew:=(K1.trans K2).trans K3;rw[iB (by omega)]at hq
  cases q with
  |true=>
   have hlt:=hq.1 rfl;simp-implicitDefEqProofs only[go_sem,zS,↓reduceIte,Za,Zb,Zc,reduceCtorEq,ae,zU,zV,Zf,Zg,Zh,Zi,Zd,Ze,zF,Bool.not_true];exact⟨K3,hF _ A3 (hE 0 (if_neg (by rintro(h|h|h|h);exact e1 h;exact e2 h;exact h0 h;omega))) ew⟩
  |false=>
   have jt:¬y.2.toNat<2^n:=fun h=>by have:=hq.2 h;cases this
   simp-implicitDefEqProofs only[go_sem,zS,↓reduceIte,Za,Zb,Zc,reduceCtorEq,ae,zU,zV,Zf,Zg,Zh,Zi,Zd,Ze,zF,Bool.not_false];exact⟨K3,hT _ A3 (hE 2 (if_pos (.inr (.inr (.inr (by omega)))))) (by simp-implicitDefEqProofs only[go_sem,zS,↓reduceIte,Za,Zb,Zc,reduceCtorEq,ae,zU,zV,Zf,Zg,Zh,Zi,Zd,Ze]) ew⟩
theorem Jv {l:List wx} {k:Nat} (hk:k<=l.length) {e:Int} (h:zy roles p l k=e) (he:e≠0):zy roles p l l.length=e:=by
 rw[Jf (by rw[h];exact he) _ hk,h]
theorem TB (hi:i<l.length) (h:rM n (l.take i)=0):rM n (l.take (i+1))=pQ n l[i]:=by
 have app:∀(a b:List yi),rM n (a++b)=ju (rM n a) (rM n b):=fun a b=>by
  induction a with
  |nil=>rfl
  |cons x a ih=>
   simp only[List.cons_append,rM,ih];unfold ju;split<;>rfl
 rw[List.take_succ_eq_append_getElem hi,app,h,eC];simp only[rM,ju]
 split<;>simp_all
theorem Jw (h:rM n (l.take i)≠0):rM n l=rM n (l.take i):=by
 have app:∀(a b:List yi),rM n (a++b)=ju (rM n a) (rM n b):=fun a b=>by
  induction a with
  |nil=>rfl
  |cons x a ih=>
   simp only[List.cons_append,rM,ih];unfold ju;split<;>rfl
 conv=>lhs;rw[<-List.take_append_drop i l]
 rw[app,ox _ h]
def mY (P:Program) (ι:aC) (k:FuncId):Prop:=∀(F:dz) (v x:Value) (roles:Int) (p:Nat->Bool) (H:Hp),aU ι H->bW H v F->aQ H x p->ak P k #[v,.int .i64 roles,x] H fun r H'=>r=.int .i64 (ef F roles p)/\af (fun _=>False) H H'
theorem Ox {k:FuncId} (hk:an P k (CI ι) CJ 3) (c:Tz P ι):mY P ι k:=by
 intro F v x roles p H hT hv hx;obtain⟨s,b,d,a,m,ms,rfl,h1,h2,h3,h4,h5,h6⟩:=hv;obtain⟨ba,bc,rfl,_⟩:=h2.mk;obtain⟨da,dc,rfl,_⟩:=h3.mk;obtain⟨aa,ac,rfl,_⟩:=h4.mk;have hx0:=hx;obtain⟨xv,XW,rfl,hXV⟩:=hx;refine qI fun Q hQ=>?_;refine ah hk (args:=[_,_,_]) (by simp) ?_;unfold CI CJ kA kB kF kC kD ke kG kH kK kL kN kO kQ kR kV kc kd kf kg kY kZ;simp-implicitDefEqProofs only[go_sem,zS,↓reduceIte,Za,Zb,Zc,reduceCtorEq,zU,zV,Zf,Zg,Zh,Zi,Zd,Ze,zF];refine al fun H1 b3 e1 z1 B1 K1=>?_;have cf:=B1;simp only[Value.cells]at cf;simp-implicitDefEqProofs only[go_sem,zS,↓reduceIte,Za,Zb,Zc,reduceCtorEq,zU,zV,Zf,Zg,Zh,Zi,Zd,Ze,zF];refine al fun H2 b5 e2 z2 B2 K2=>?_;have jc:Bl H2 b5 [xv]:=B2;have AB:=K2.bl cf (by simp);have cG:=K1.trans K2;have c0:cell H2 ⟨b3,0,none⟩=some s:=by rw[AB.cell];rfl
 obtain⟨n,hn⟩:∃n,n=F.st.length:=⟨_,rfl⟩
 by_cases hn0:F.st=[]
 ·have d0:((F.st.length:Int)==0)=true:=by rw[hn0];rfl
  simp-implicitDefEqProofs only[go_sem,zS,↓reduceIte,Za,Zb,Zc,reduceCtorEq,ae,zU,zV,Zf,Zg,Zh,Zi,Zd,Ze,zF,c0,h1.aq,h1.len,d0];rw[hQ];exact⟨by unfold ef;rw[if_pos hn0],cG⟩
 have hnz:0<F.st.length:=List.length_pos_iff.2 hn0;have d0:((F.st.length:Int)==0)=false:=by simp only[beq_eq_false_iff_ne,ne_eq];omega
 have pO:ms.length=F.mo.length:=h6.len;simp-implicitDefEqProofs only[go_sem,zS,↓reduceIte,Za,Zb,Zc,reduceCtorEq,ae,zU,zV,Zf,Zg,Zh,Zi,Zd,Ze,zF,c0,h1.aq,h1.len,d0];refine Ot (F:=F) (by simp-implicitDefEqProofs only[go_sem,zS,↓reduceIte,Za,Zb,Zc,reduceCtorEq,ae,zU,zV,Zf,Zg,Zh,Zi,Zd,Ze]) AB h1.aq h2.aq h3.aq h4.aq h5.aq h1.len h2.len h3.len h4.len (h5.len.trans pO) (fun Ou f' hf6=>?_) (fun hsm=>?_)
 ·simp-implicitDefEqProofs only[go_sem,zS,↓reduceIte,Za,Zb,Zc,reduceCtorEq,ae,zU,zV,Zf,Zg,Zh,Zi,Zd,Ze,hf6];rw[hQ];exact⟨by unfold ef;rw[if_neg hn0,if_pos (show mQ F from Ou)],cG⟩
 have WQ:∀z,ju (zy roles p F.st F.st.length) (ju (jq F.st.length F.be) (ju (jq F.st.length F.di) (ju (jq F.st.length F.sa) (ju (rM F.st.length F.mo) (Gg (lP F.be))))))=z->ef F roles p=z:=fun z h=>by
  unfold ef;rw[if_neg hn0,if_neg (show¬mQ F from hsm)];exact h
 simp-implicitDefEqProofs only[go_sem,zS,↓reduceIte,Za,Zb,Zc,reduceCtorEq,ae,zU,zV,Zf,Zg,Zh,Zi,Zd,Ze,zF,c0,h1.aq,h1.len];refine aL F.st.length [44,8,7,48,6,53,60,43] rfl rfl (by omega) (by simp-implicitDefEqProofs only[go_sem,zS,↓reduceIte,Za,Zb,Zc,reduceCtorEq,ae,zU,zV,Zf,Zg,Zh,Zi,Zd,Ze]) (by simp-implicitDefEqProofs only[go_sem,zS,↓reduceIte,Za,Zb,Zc,reduceCtorEq,ae,zU,zV,Zf,Zg,Zh,Zi,Zd,Ze]) (fun i g A=>zy roles p F.st i=0/\af (fun _=>False) H2 A) ⟨rfl,af.refl _ _⟩ ?_ ?_
 ·rintro i g A hi gi gn ⟨hz,KA⟩;simp-implicitDefEqProofs only[go_sem,zS,↓reduceIte,Za,Zb,Zc,reduceCtorEq,ae,zU,zV,Zf,Zg,Zh,Zi,Zd,Ze]at gi gn;have hA:=(h1.ai cG).ai KA;obtain⟨pb,po,pc,jr,oe,hld⟩:=hA.elem fg hi;obtain⟨y,hy⟩:∃y,y=F.st[i]:=⟨_,rfl⟩
  rw[<-hy]at hld;have cP:aR A ⟨pb,po+i*2,none⟩ 2=some #[sV y.1,.int .i64 y.2]:=hld;have hgd:F.st.getD i ([],0)=y:=by rw[List.getD_eq_getElem?_getD,List.getElem?_eq_getElem hi,hy];rfl
  have hsu:zy roles p F.st (i+1)=pP roles p (F.st.take i) y:=by rw[zy,hz,eC,hgd]
  simp-implicitDefEqProofs only[go_sem,zS,↓reduceIte,Za,Zb,Zc,reduceCtorEq,zU,zV,Zf,Zg,Zh,Zi,Zd,Ze,zF,gi,jr,aj,aB,cP];refine⟨by omega,?_⟩;refine ff [sV y.1,.int .i64 y.2] (.int .i64 (i:Int)) rfl (by simp-implicitDefEqProofs only[go_sem,zS,↓reduceIte,Za,Zb,Zc,reduceCtorEq,ae,zU,zV,Zf,Zg,Zh,Zi,Zd,Ze]) (by simp-implicitDefEqProofs only[go_sem,zS,↓reduceIte,Za,Zb,Zc,reduceCtorEq,ae,zU,zV,Zf,Zg,Zh,Zi,Zd,Ze]) rfl rfl rfl fun A1 b8 e8 z8 B8 K8=>?_;have Rh:=KA.trans K8;simp-implicitDefEqProofs only[go_sem,zS,↓reduceIte,Za,Zb,Zc,reduceCtorEq,ae,zU,zV,Zf,Zg,Zh,Zi,Zd,Ze];rw[jr]at AB h1;refine Ov c (i:=i) (x:=y) (st:=F.st) (roles:=roles) (by simp-implicitDefEqProofs only[go_sem,zS,↓reduceIte,Za,Zb,Zc,reduceCtorEq,ae,zU,zV,Zf,Zg,Zh,Zi,Zd,Ze]) (by simp-implicitDefEqProofs only[go_sem,zS,↓reduceIte,Za,Zb,Zc,reduceCtorEq,ae,zU,zV,Zf,Zg,Zh,Zi,Zd,Ze]) (by simp-implicitDefEqProofs only[go_sem,zS,↓reduceIte,Za,Zb,Zc,reduceCtorEq,ae,zU,zV,Zf,Zg,Zh,Zi,Zd,Ze]) (by simp-implicitDefEqProofs only[go_sem,zS,↓reduceIte,Za,Zb,Zc,reduceCtorEq,ae,zU,zV,Zf,Zg,Zh,Zi,Zd,Ze]) (by simp-implicitDefEqProofs only[go_sem,zS,↓reduceIte,Za,Zb,Zc,reduceCtorEq,ae,zU,zV,Zf,Zg,Zh,Zi,Zd,Ze]) (Rh.bl AB (by simp)) (Rh.bl jc (by simp)) B8 ((h1.ai cG).ai Rh) hi (by have:=hsm;omega) ((hx0.ai cG).ai Rh) (fun e f' A' he hne zJ TC=>?_) (fun f' A' he TC=>?_)
  ·simp-implicitDefEqProofs only[go_sem,zS,↓reduceIte,Za,Zb,Zc,reduceCtorEq,ae,zU,zV,Zf,Zg,Zh,Zi,Zd,Ze,zJ];rw[hQ];have:=Jv (k:=i+1) (l:=F.st) (by omega) (hsu.trans he) hne;exact⟨by rw[WQ e (by rw[this,ox _ hne])],cG.trans (Rh.trans TC)⟩
  ·simp-implicitDefEqProofs only[go_sem,zS,↓reduceIte,Za,Zb,Zc,reduceCtorEq,ae,zU,zV,Zf,Zg,Zh,Zi,Zd,Ze];exact⟨by rw[hsu,he],Rh.trans TC⟩
 ·rintro g A gi ⟨hz,KA⟩;have Oy:=cG.trans KA;have Vh:=KA.bl AB (by simp);have c1:cell A ⟨b3,1,none⟩=some (.slice ba F.be.length bc):=by rw[Vh.cell];rfl
  have c2:cell A ⟨b3,2,none⟩=some (.slice da F.di.length dc):=by rw[Vh.cell];rfl
  have c3:cell A ⟨b3,3,none⟩=some (.slice aa F.sa.length ac):=by rw[Vh.cell];rfl
  obtain⟨us,hus⟩:∃us:List Value,us=[.slice ba F.be.length bc,.slice da F.di.length dc,.slice aa F.sa.length ac]:=⟨_,rfl⟩
  obtain⟨ls,Te⟩:∃ls:List (List eH),ls=[F.be,F.di,F.sa]:=⟨_,rfl⟩
  have hsl:∀j<3,nT H (us.getD j undef) (ls.getD j [])/\(ls.getD j []).length<=20:=fun j hj=>by
   rw[hus,Te];have:j=0\/j=1\/j=2:=by omega
   rcases this with rfl|rfl|rfl
   ·exact⟨h2,by show F.be.length<=20;omega⟩
   ·exact⟨h3,by show F.di.length<=20;omega⟩
   ·exact⟨h4,by show F.sa.length<=20;omega⟩
  have hl3:us.length=3:=by rw[hus];rfl
  obtain⟨pF,Zv⟩:∃pF:Nat->Int,∀j,pF j=(match j with|0=>0|1=>jq F.st.length F.be|2=>ju (jq F.st.length F.be) (jq F.st.length F.di)|_=>ju (jq F.st.length F.be) (ju (jq F.st.length F.di) (jq F.st.length F.sa))):=⟨_,fun _=>rfl⟩
  have MC:∀j<3,pF j=0->pF (j+1)=jq F.st.length (ls.getD j []):=fun j hj h0=>by
   rw[Zv]at h0⊢;rw[Te];have:j=0\/j=1\/j=2:=by omega
   rcases this with rfl|rfl|rfl
   ·rfl
   ·simp only at h0⊢;rw[h0];rfl
   ·simp only at h0⊢;obtain⟨e1,e2⟩:=ja.1 h0;rw[e1,e2];rfl
  have TD:∀j<3,∀e,pF (j+1)=e->e≠0->ef F roles p=e:=fun j hj e he hne=>WQ e (by
   rw[hz,eC];rw[Zv]at he;have:j=0\/j=1\/j=2:=by omega
   rcases this with rfl|rfl|rfl
   ·simp only at he;rw[he,ox _ hne]
   ·simp only at he;unfold ju at he⊢
    split at he
    ·next h=>rw[if_pos h,he,if_neg hne]
    ·next h=>rw[if_neg h];exact he
   ·simp only at he;unfold ju at he⊢
    split at he
    ·next h=>
     rw[if_pos h]
     split at he
     ·next h'=>rw[if_pos h',he,if_neg hne]
     ·next h'=>rw[if_neg h'];exact he
    ·next h=>rw[if_neg h];exact he)
  simp-implicitDefEqProofs only[go_sem,zS,↓reduceIte,Za,Zb,Zc,reduceCtorEq,zU,zV,Zf,Zg,Zh,Zi,Zd,Ze,zF,c1,c2,c3];refine aG fun A1 b83 e3 z3 B83 K83=>?_;have abG:Bl A1 b83 us:=by rw[hus];exact B83
  have WR:=Oy.trans K83;have K21:=KA.trans K83;clear hus B83 Te;simp-implicitDefEqProofs only[go_sem,zS,↓reduceIte,Za,Zb,Zc,reduceCtorEq,ae,zU,zV,Zf,Zg,Zh,Zi,Zd,Ze,zF];refine aL 3 [86,10,11,6,95,85] rfl rfl (by omega) (by simp-implicitDefEqProofs only[go_sem,zS,↓reduceIte,Za,Zb,Zc,reduceCtorEq,ae,zU,zV,Zf,Zg,Zh,Zi,Zd,Ze]) (by simp-implicitDefEqProofs only[go_sem,zS,↓reduceIte,Za,Zb,Zc,reduceCtorEq,ae,zU,zV,Zf,Zg,Zh,Zi,Zd,Ze]) (fun j g X=>pF j=0/\af (fun _=>False) A1 X) ⟨(Zv 0).trans rfl,af.refl _ _⟩ ?_ ?_
  ·rintro j g2 X hj gi gn ⟨hpj,KX⟩;simp-implicitDefEqProofs only[go_sem,zS,↓reduceIte,Za,Zb,Zc,reduceCtorEq,ae,zU,zV,Zf,Zg,Zh,Zi,Zd,Ze]at gi gn;obtain⟨abH,uL⟩:=hsl j hj;have lh:=WR.trans KX;have YQ:cell X ⟨b83,j,none⟩=some (us.getD j undef):=by
    rw[(KX.bl abG (by simp)).cell,List.getElem?_eq_getElem (by omega),List.getD_eq_getElem?_getD,List.getElem?_eq_getElem (by omega)];rfl
   have cs0:cell X ⟨b3,0,none⟩=some s:=by rw[((K21.trans KX).bl AB (by simp)).cell];rfl
   simp-implicitDefEqProofs only[go_sem,zS,↓reduceIte,Za,Zb,Zc,reduceCtorEq,ae,zU,zV,Zf,Zg,Zh,Zi,Zd,Ze,zF,gi,aj,YQ,cs0,h1.aq,h1.len];refine⟨by omega,(c.prs F.st.length (ls.getD j []) _ X (abH.ai lh) (by omega) (by omega)).mono ?_⟩;rintro r X1 ⟨rfl,Rc⟩;rw[ae]
   by_cases hne:jq F.st.length (ls.getD j [])=0
   ·have dn:((jq F.st.length (ls.getD j []))!=0)=false:=by rw[hne];rfl
    simp-implicitDefEqProofs only[go_sem,zS,↓reduceIte,Za,Zb,Zc,reduceCtorEq,ae,zU,zV,Zf,Zg,Zh,Zi,Zd,Ze,zF,dn];exact⟨by rw[MC j hj hpj];exact hne,KX.trans Rc⟩
   ·have dn:((jq F.st.length (ls.getD j []))!=0)=true:=bne_iff_ne.2 hne;simp-implicitDefEqProofs only[go_sem,zS,↓reduceIte,Za,Zb,Zc,reduceCtorEq,ae,zU,zV,Zf,Zg,Zh,Zi,Zd,Ze,zF,dn];rw[hQ];exact⟨by rw[TD j hj _ (MC j hj hpj) hne],lh.trans Rc⟩
  ·rintro g2 X gi ⟨Y4,KX⟩;have Gs:=Zv 3;rw[Y4]at Gs;have Gs:ju (jq F.st.length F.be) (ju (jq F.st.length F.di) (jq F.st.length F.sa))=0:=Gs.symm;obtain⟨Zw,Gs⟩:=ja.1 Gs;obtain⟨pd0,pa0⟩:=ja.1 Gs;have lh:=WR.trans KX;have K2X:=K21.trans KX;have B3X:=K2X.bl AB (by simp);have c4:cell X ⟨b3,4,none⟩=some m:=by rw[B3X.cell];rfl
   simp-implicitDefEqProofs only[go_sem,zS,↓reduceIte,Za,Zb,Zc,reduceCtorEq,ae,zU,zV,Zf,Zg,Zh,Zi,Zd,Ze,zF,c4,h5.aq,h5.len];refine aL ms.length [102,13,127,6,101] rfl rfl (by omega) (by simp-implicitDefEqProofs only[go_sem,zS,↓reduceIte,Za,Zb,Zc,reduceCtorEq,ae,zU,zV,Zf,Zg,Zh,Zi,Zd,Ze]) (by simp-implicitDefEqProofs only[go_sem,zS,↓reduceIte,Za,Zb,Zc,reduceCtorEq,ae,zU,zV,Zf,Zg,Zh,Zi,Zd,Ze]) (fun i g Y=>rM F.st.length (F.mo.take i)=0/\af (fun _=>False) X Y) ⟨rfl,af.refl _ _⟩ ?_ ?_
   ·rintro i g3 Y hi gi gn ⟨WS,KY⟩;simp-implicitDefEqProofs only[go_sem,zS,↓reduceIte,Za,Zb,Zc,reduceCtorEq,ae,zU,zV,Zf,Zg,Zh,Zi,Zd,Ze]at gi gn;have MD:=lh.trans KY;have qE:i<F.mo.length:=by omega
    obtain⟨pb,po,pc,jr,oe,hld⟩:=(h5.ai MD).elem iz hi;obtain⟨y,hy⟩:∃y,y=ms[i]:=⟨_,rfl⟩
    obtain⟨w,hw⟩:∃w,w=F.mo[i]:=⟨_,rfl⟩
    obtain⟨r1,r2⟩:=h6.at_ i hi qE;rw[<-hy,<-hw]at r1 r2;rw[<-hy]at hld;have cP:aR Y ⟨pb,po+i*2,none⟩ 2=some #[.int .i64 y.1,iK y]:=hld;have hms:=TB qE WS;rw[<-hw]at hms;simp-implicitDefEqProofs only[go_sem,zS,↓reduceIte,Za,Zb,Zc,reduceCtorEq,zU,zV,Zf,Zg,Zh,Zi,Zd,Ze,zF,gi,jr,aj,aB,cP];refine⟨by omega,?_⟩;refine bf [.int .i64 y.1,iK y] (by simp-implicitDefEqProofs only[go_sem,zS,↓reduceIte,Za,Zb,Zc,reduceCtorEq,ae,zU,zV,Zf,Zg,Zh,Zi,Zd,Ze]) rfl rfl rfl fun Y1 b13 e13 z13 gC vG=>?_;have WT:=MD.trans vG;simp-implicitDefEqProofs only[go_sem,zS,↓reduceIte,Za,Zb,Zc,reduceCtorEq,ae,zU,zV,Zf,Zg,Zh,Zi,Zd,Ze];refine Ow c (n:=F.st.length) (x:=y) (y:=w) (by simp-implicitDefEqProofs only[go_sem,zS,↓reduceIte,Za,Zb,Zc,reduceCtorEq,ae,zU,zV,Zf,Zg,Zh,Zi,Zd,Ze]) (by simp-implicitDefEqProofs only[go_sem,zS,↓reduceIte,Za,Zb,Zc,reduceCtorEq,ae,zU,zV,Zf,Zg,Zh,Zi,Zd,Ze]) ((K2X.trans (KY.trans vG)).bl AB (by simp)) gC h1.aq h1.len (by omega) r1 (r2.ai WT) (fun f' Y2 he zJ WU=>?_) (fun f' Y2 he WU=>?_)
    ·simp-implicitDefEqProofs only[go_sem,zS,↓reduceIte,Za,Zb,Zc,reduceCtorEq,ae,zU,zV,Zf,Zg,Zh,Zi,Zd,Ze,zJ];rw[hQ];have h2:rM F.st.length (F.mo.take (i+1))=2:=hms.trans he;have h3:=Jw (l:=F.mo) (i:=i+1) (by rw[h2];decide);exact⟨by rw[WQ 2 (by rw[hz,eC,Zw,eC,pd0,eC,pa0,eC,h3,h2,ox _ (by decide)])],WT.trans WU⟩
    ·simp-implicitDefEqProofs only[go_sem,zS,↓reduceIte,Za,Zb,Zc,reduceCtorEq,ae,zU,zV,Zf,Zg,Zh,Zi,Zd,Ze];exact⟨hms.trans he,(KY.trans vG).trans WU⟩
   ·rintro g3 Y gi ⟨WS,KY⟩;rw[pO,List.take_length]at WS;have MD:=lh.trans KY;have WV:=(K2X.trans KY).bl AB (by simp);have cy0:cell Y ⟨b3,0,none⟩=some s:=by rw[WV.cell];rfl
    have cy1:cell Y ⟨b3,1,none⟩=some (.slice ba F.be.length bc):=by rw[WV.cell];rfl
    simp-implicitDefEqProofs only[go_sem,zS,↓reduceIte,Za,Zb,Zc,reduceCtorEq,ae,zU,zV,Zf,Zg,Zh,Zi,Zd,Ze,zF,cy0,cy1,h1.aq,h1.len];refine(c.nw (F.st.length:Int) F.be _ Y (hT.ag MD) (h2.ai MD) (by omega)).mono ?_;rintro r Y1 ⟨hr,TE,-⟩;have hok:∀q∈F.be,l8 (F.st.length:Int) q:=fun q hq=>(Je.1 (Jd.1 Zw q hq)).1;rw[ae];rcases hr with⟨hb,_⟩|⟨_,hb,_⟩|⟨_,_,hA,rfl⟩|⟨_,_,hA,pv,rfl,_⟩
    ·unfold rG at hb;omega
    ·exact absurd hok hb
    ·simp-implicitDefEqProofs only[go_sem,zS,↓reduceIte,Za,Zb,Zc,reduceCtorEq,ae,zU,zV,Zf,Zg,Zh,Zi,Zd,Ze,zF];rw[hQ];exact⟨by rw[WQ 16 (by rw[hz,eC,Zw,eC,pd0,eC,pa0,eC,WS,eC,Jg hA])],MD.trans TE⟩
    ·simp-implicitDefEqProofs only[go_sem,zS,↓reduceIte,Za,Zb,Zc,reduceCtorEq,ae,zU,zV,Zf,Zg,Zh,Zi,Zd,Ze,zF];rw[hQ];exact⟨by rw[WQ 0 (by rw[hz,eC,Zw,eC,pd0,eC,pa0,eC,WS,eC,Cg hA])],MD.trans TE⟩
end Go.Mg
namespace Go.Mg
open Go Go.RowKit
def WW (d:Nat->Bool) (k:Nat) (x:eH):Bool:=decide (x.2=(k:Int))&&!bS d x.1
theorem Gt (m:Nat) (be:List eH) (d:Nat->Bool):((List.range (m+1)).filter fun k=>!jO be d k&&!bS d (k:Int))=((List.range m).filter fun k=>!jO be d k&&!bS d (k:Int))++if(!jO be d m&&!bS d (m:Int))=true then[m]else[]:=by
 rw[List.range_succ,List.filter_append]
 congr 1
 simp only[List.filter_cons,List.filter_nil]
theorem Jx (n:Nat) (be:List eH) (d:Nat->Bool):(jb n be d).length<=n:=by
 have:=List.length_filter_le (fun k=>!jO be d k&&!bS d (k:Int)) (List.range n)
 rwa [List.length_range]at this
end Go.Mg
namespace Go.Mg
open Go Go.RowKit
end Go.Mg
namespace Go.Mg
open Go Go.RowKit
def wP (ι:aC):S:=
 kY [kR 1 (ι.t 296) 0,kC 2 (.bool false)] (kY [kM 3 5 1,kU 4 (.m (.gz #[kZ] [])),kc 5 (kg (ι.f 307) [.t 3,.c (.int .i64 63),.t 4]),kU 6 (.cm .eql .i64 (.t 5) (.c (.int .i64 0))),kB 2 6] .ret)
def wQ:List RV:=[.t 2]
def CK (ι:aC):S:=
 kY [kR 3 (ι.t 194) 0,kC 4 (.bool false)] (kY [kP 5 2 1 3 1,kD 6 5,kU 7 (.ld (.v 1)),kU 8 (.cm .eql .i64 (.t 6) (.t 7)),kF 9 8,kT 10 9 true (.m (.ldn 1 (.v 2))),kT 11 9 true (.ia 2 1 (.v 3) (.c (.int .i64 0))),kT 12 9 true (.ld (.t 11)),.ge (.t 13) (.t 9) true (kg (ι.f 130) [.t 10,.t 12]),kT 14 9 true (.not (.t 13)),kJ 15 9 14,kB 4 15] .ret)
def CL:List RV:=[.t 4]
def CM (ι:aC):S:=
 kY [kR 2 (ι.t 296) 0,kR 3 (ι.t 128) 1,kC 4 (kZ)] (.seq (kY [kM 8 5 2,kc 9 (kg (ι.f 312) [.t 8]),kV 10 (.not (.t 9))] (.ite (.v 10) (kY [kC 4 (kZ)] .ret) .skip)) (kY [kC 5 (kZ)] (.seq (kY [kG 11 0 2,kD 12 11,kV 13 (.m (.lenl (.t 12))),kC 14 (.int .i64 0)] (.blk 0 (.loop (kY [kH 15 14 13] (.seq (.ite (.v 15) .skip (.exit 0)) (.seq (.blk 1 (kY [kA 16 14,kd 6 (.new (ι.t 26) #[.int .i64 0]),kf (.st (.v 6) (.t 16))] (kY [kG 17 1 2,kD 18 17,kU 19 (.m (.mkf (ι.f 313) [] [.v 6,.v 3])),kc 20 (kg (ι.f 304) [.t 18,.t 19]),kB 7 20] (kY [kA 21 7,kU 22 (.not (.t 21)),kF 23 22,kT 24 23 true (.m (.ldn 1 (.v 3))),kT 25 23 true (.ld (.v 6)),.ge (.t 26) (.t 23) true (kg (ι.f 130) [.t 24,.t 25]),kT 27 23 true (.not (.t 26)),kV 28 (.pick (.t 23) (.t 27) (.c (.bool false)))] (.ite (.v 28) (.reg [kA 29 5,kU 30 (.ld (.v 6)),kc 31 (.bF (ι.t 26) 1 1 [.t 30]),kc 32 (.app false (ι.t 26) 1 8 #[.int .i64 0] (.t 29) (.t 31)),kB 5 32]) .skip))))) (.reg [ke 33 14,kB 14 33]))))))) (kY [kA 34 5,kB 4 34] .ret))))
def CN:List RV:=[.t 4]
noncomputable def CO (F:dz):Bool:=decide (ef F 63 (fun _=>false)=0)
def iC (P:Program) (ι:aC) (k:FuncId):Prop:=∀(F:dz) (v:Value) (H:Hp),aU ι H->bW H v F->ak P k #[v] H fun r H'=>r=.bool (CO F)/\af (fun _=>False) H H'
variable {P:Program} {ι:aC} {k:FuncId} {F:dz}
theorem Jy (hk:an P k (wP ι) wQ 1) (hc:mY P ι (ι.f 307)):iC P ι k:=by
 intro F v H hT hv;have lO:=hv;obtain⟨s,b,d,a,m,ms,rfl,h1,h2,h3,h4,h5,h6⟩:=hv;refine ah hk (args:=[_]) (by simp) ?_;unfold wP wQ kB kC kM kR kU kc kg kY kZ;simp-implicitDefEqProofs only[go_sem,zS,↓reduceIte,Za,Zb,Zc,reduceCtorEq,zU,zV,Zf,Zg,Zh,Zi,Zd,Ze,zF];refine al fun H1 b1 e1 z1 B1 K1=>?_;have cf:Bl H1 b1 [s,b,d,a,m]:=B1;simp-implicitDefEqProofs only[go_sem,zS,↓reduceIte,Za,Zb,Zc,reduceCtorEq,ae,zU,zV,Zf,Zg,Zh,Zi,Zd,Ze,zF,cf.aD 5 rfl];refine(hc F _ _ 63 _ H1 (hT.ag K1) (lO.ai K1) (aQ.empty H1 none 0)).mono ?_;rintro r A ⟨rfl,K2⟩;rw[ae];have e:(ef F 63 (fun _=>false)==0)=CO F:=by
  unfold CO;rw[Bool.eq_iff_iff];simp
 simp-implicitDefEqProofs only[go_sem,zS,↓reduceIte,Za,Zb,Zc,reduceCtorEq,ae,zU,zV,Zf,Zg,Zh,Zi,Zd,Ze,zF,e];exact K1.trans K2
theorem wR:CO F=true↔ef F 63 (fun _=>false)=0:=by unfold CO;exact decide_eq_true_iff
theorem r8 (h:CO F=true):Good F:=(Jh.1 (wR.1 h)).1
theorem wS (r:cQ):CO (bT r)=true:=wR.2 (N1 r (by omega) fun _ _ _=>rfl)
def zK (P:Program) (k:FuncId):Prop:=bB P k=true/\∀(x:eH) (i b6 b3:Nat) (d:Nat->Bool) (dv:Value) (H:Hp),Bl H b6 [.int .i64 (i:Int)]->Bl H b3 [dv]->aQ H (.agg #[dv]) d->ak P k #[.agg (pE x).toArray,.pointer (some ⟨b6,0,none⟩),.pointer (some ⟨b3,0,none⟩)] H fun r H'=>r=.bool (WW d i x)/\af (fun _=>False) H H'
theorem Oz (hk:an P k (CK ι) CL 3) (hh:dT P (ι.f 130)):zK P k:=by
 refine⟨hk.body,fun x i b6 b3 d dv H B6 B3 hd=>?_⟩;refine ah hk (args:=[_,_,_]) (by simp) ?_;unfold CK CL kB kF kC kD kJ kP kR kT kU kg kY;simp-implicitDefEqProofs only[go_sem,zS,↓reduceIte,Za,Zb,Zc,reduceCtorEq,zU,zV,Zf,Zg,Zh,Zi,Zd,Ze,zF];refine al fun H1 b1 e1 z1 B1 K1=>?_;have cf:Bl H1 b1 (pE x):=B1;have c0:cell H1 ⟨b1,0,none⟩=some (.int .i64 x.1):=by rw[cf.cell];rfl
 have c1:cell H1 ⟨b1,1,none⟩=some (.int .i64 x.2):=by rw[cf.cell];rfl
 have c6:cell H1 ⟨b6,0,none⟩=some (.int .i64 (i:Int)):=by rw[(K1.bl B6 (by simp)).cell];rfl
 have Ri:=K1.bl B3 (by simp)
 by_cases e:x.2=(i:Int)
 ·have d1:(x.2==(i:Int))=true:=by simp[e]
  simp-implicitDefEqProofs only[go_sem,zS,↓reduceIte,Za,Zb,Zc,reduceCtorEq,ae,zU,zV,Zf,Zg,Zh,Zi,Zd,Ze,zF,c0,c1,c6,d1,Ri.aD 1 rfl];refine(hh d _ x.1 H1 (hd.ai K1)).mono ?_;rintro r A ⟨rfl,K2⟩;rw[ae];simp-implicitDefEqProofs only[go_sem,zS,↓reduceIte,Za,Zb,Zc,reduceCtorEq,ae,zU,zV,Zf,Zg,Zh,Zi,Zd,Ze,zF];refine⟨?_,K1.trans K2⟩;simp[WW,e]
 ·have d1:(x.2==(i:Int))=false:=by simp[e]
  simp-implicitDefEqProofs only[go_sem,zS,↓reduceIte,Za,Zb,Zc,reduceCtorEq,ae,zU,zV,Zf,Zg,Zh,Zi,Zd,Ze,zF,c0,c1,c6,d1];refine⟨?_,K1⟩;simp[WW,e]
def r9 (P:Program) (ι:aC) (k:FuncId):Prop:=∀(F:dz) (v x:Value) (d:Nat->Bool) (H:Hp),aU ι H->bW H v F->CO F=true->aQ H x d->ak P k #[v,x] H fun r H'=>bY H' r (iN (jb F.st.length F.be d))/\(∀q,ay r q->H.size<=q)/\af (fun _=>False) H H'
structure abI (P:Program) (ι:aC):Prop where
 gd:iC P ι (ι.f 312)
 r1:zK P (ι.f 313)
 con:iA pE P (ι.f 304)
 has:dT P (ι.f 130)
theorem OC (hk:an P k (CM ι) CN 2) (c:abI P ι):r9 P ι k:=by
 intro F v x d H hT hv hok hx;have lO:=hv;have hx0:=hx;obtain⟨dv,W,rfl,hV⟩:=hx;obtain⟨s,b,dd,a,m,ms,rfl,h1,h2,h3,h4,h5,h6⟩:=hv;have hG:=r8 hok;have hlim:=hG.lim;unfold mQ at hlim;refine qI fun Q hQ=>?_;refine ah hk (args:=[_,_]) (by simp) ?_;unfold CM CN kA kB kF kC kD ke kG kH kM kR kT kU kV kc kd kf kg kY kZ;simp-implicitDefEqProofs only[go_sem,zS,↓reduceIte,Za,Zb,Zc,reduceCtorEq,zU,zV,Zf,Zg,Zh,Zi,Zd,Ze,zF];refine al fun H1 b2 e1 z1 B1 K1=>?_;have cf:Bl H1 b2 [s,b,dd,a,m]:=B1;simp-implicitDefEqProofs only[go_sem,zS,↓reduceIte,Za,Zb,Zc,reduceCtorEq,zU,zV,Zf,Zg,Zh,Zi,Zd,Ze,zF];refine al fun H2 b3 e2 z2 B2 K2=>?_;have jc:Bl H2 b3 [dv]:=B2;have fY:=K2.bl cf (by simp);have cG:=K1.trans K2;simp-implicitDefEqProofs only[go_sem,zS,↓reduceIte,Za,Zb,Zc,reduceCtorEq,ae,zU,zV,Zf,Zg,Zh,Zi,Zd,Ze,zF,fY.aD 5 rfl];refine(c.gd F _ H2 (hT.ag cG) (lO.ai cG)).mono ?_;rintro r H3 ⟨rfl,K3⟩;have ew:=cG.trans K3;have gC:=K3.bl fY (by simp);have nX:=K3.bl jc (by simp);have c0:cell H3 ⟨b2,0,none⟩=some s:=by rw[gC.cell];rfl
 rw[ae,hok];obtain⟨LF,WX⟩:∃LF:Nat->List Nat,∀i,LF i=(List.range i).filter fun k=>!jO F.be d k&&!bS d (k:Int):=⟨_,fun _=>rfl⟩
 have NQ:∀i,(LF i).length<=i:=fun i=>by
  rw[WX];have:=List.length_filter_le (fun k=>!jO F.be d k&&!bS d (k:Int)) (List.range i)
  rwa [List.length_range]at this
 simp-implicitDefEqProofs only[go_sem,zS,↓reduceIte,Za,Zb,Zc,reduceCtorEq,ae,zU,zV,Zf,Zg,Zh,Zi,Zd,Ze,zF,Bool.not_true,c0,h1.aq,h1.len];refine aL F.st.length [15,6,7,28,5,14] rfl rfl (by omega) (by simp-implicitDefEqProofs only[go_sem,zS,↓reduceIte,Za,Zb,Zc,reduceCtorEq,ae,zU,zV,Zf,Zg,Zh,Zi,Zd,Ze]) (by simp-implicitDefEqProofs only[go_sem,zS,↓reduceIte,Za,Zb,Zc,reduceCtorEq,ae,zU,zV,Zf,Zg,Zh,Zi,Zd,Ze]) (fun i g A=>∃lv,g 5=lv/\bY A lv (iN (LF i))/\(∀q,ay lv q->H3.size<=q)/\af (fun _=>False) H3 A) ⟨.slice none 0 0,by simp-implicitDefEqProofs only[go_sem,zS,↓reduceIte,Za,Zb,Zc,reduceCtorEq,ae,zU,zV,Zf,Zg,Zh,Zi,Zd,Ze],by rw[WX];exact bY.nil _,fun q h=>h.elim,af.refl _ _⟩ ?_ ?_
 ·rintro i g A hi gi gn ⟨lv,g5,OA,oA,KA⟩;simp-implicitDefEqProofs only[go_sem,zS,↓reduceIte,Za,Zb,Zc,reduceCtorEq,ae,zU,zV,Zf,Zg,Zh,Zi,Zd,Ze]at gi gn g5;have sA:=KA.size;simp-implicitDefEqProofs only[go_sem,zS,↓reduceIte,Za,Zb,Zc,reduceCtorEq,zU,zV,Zf,Zg,Zh,Zi,Zd,Ze,zF,gi];refine gS (.int .i64 (i:Int)) (by simp-implicitDefEqProofs only[go_sem,zS,↓reduceIte,Za,Zb,Zc,reduceCtorEq,ae,zU,zV,Zf,Zg,Zh,Zi,Zd,Ze]) rfl fun A1 b6 e6 z6 B6 K6=>?_;have Zx:=KA.trans K6;have Hh:=Zx.bl gC (by simp);have MA:=Zx.bl nX (by simp);have c1:cell A1 ⟨b2,1,none⟩=some b:=by rw[Hh.cell];rfl
  have Oy:=ew.trans Zx;have ans:Ol P pE (WW d i) F.be (ι.f 313) #[] #[.pointer (some ⟨b6,0,none⟩),.pointer (some ⟨b3,0,none⟩)] A1:=⟨c.r1.1,fun y _ A2 K2=>by
   have:=c.r1.2 y i b6 b3 d dv A2 (K2.bl B6 (by simp)) (K2.bl MA (by simp)) (hx0.ai (Oy.trans K2));simpa using this⟩
  simp-implicitDefEqProofs only[go_sem,zS,↓reduceIte,Za,Zb,Zc,reduceCtorEq,ae,zU,zV,Zf,Zg,Zh,Zi,Zd,Ze,zF,c1];refine(c.con F.be _ b _ _ _ A1 (h2.ai Oy) (by omega) ans).mono ?_;rintro r A2 ⟨rfl,lC⟩;have sA2:=lC.size;have s6:=K6.size;rw[ae];have c6:cell A2 ⟨b6,0,none⟩=some (.int .i64 (i:Int)):=by rw[(lC.bl B6 (by simp)).cell];rfl
  have hw:F.be.any (WW d i)=jO F.be d i:=rfl;rw[hw];have hsuc:∀rd,(!jO F.be d i&&!bS d (i:Int))=rd->LF (i+1)=LF i++if rd=true then[i]else[]:=fun rd h=>by rw[WX,Gt,<-WX,h]
  cases hwt:jO F.be d i with
  |true=>
   have hs:=hsuc false (by rw[hwt];rfl);simp-implicitDefEqProofs only[go_sem,zS,↓reduceIte,Za,Zb,Zc,reduceCtorEq,ae,zU,zV,Zf,Zg,Zh,Zi,Zd,Ze,zF,Bool.not_true,g5];exact⟨lv,rfl,by rw[hs];simpa using(OA.ag K6 (by simp)).ag lC (by simp),oA,Zx.trans lC⟩
  |false=>
   have Vi:=lC.bl MA (by simp);simp-implicitDefEqProofs only[go_sem,zS,↓reduceIte,Za,Zb,Zc,reduceCtorEq,ae,zU,zV,Zf,Zg,Zh,Zi,Zd,Ze,zF,Bool.not_false,c6,Vi.aD 1 rfl];refine(c.has d _ (i:Int) A2 (hx0.ai (Oy.trans lC))).mono ?_;rintro r A3 ⟨rfl,Rj⟩;have sA3:=Rj.size;have KK:=K6.trans (lC.trans Rj);have c63:cell A3 ⟨b6,0,none⟩=some (.int .i64 (i:Int)):=by rw[((lC.trans Rj).bl B6 (by simp)).cell];rfl
   rw[ae]
   cases hm:bS d (i:Int)with
   |true=>
    have hs:=hsuc false (by rw[hm];simp);simp-implicitDefEqProofs only[go_sem,zS,↓reduceIte,Za,Zb,Zc,reduceCtorEq,ae,zU,zV,Zf,Zg,Zh,Zi,Zd,Ze,zF,Bool.not_true,g5];exact⟨lv,rfl,by rw[hs];simpa using OA.ag KK (by simp),oA,KA.trans KK⟩
   |false=>
    have hs:=hsuc true (by rw[hm,hwt];rfl);simp-implicitDefEqProofs only[go_sem,zS,↓reduceIte,Za,Zb,Zc,reduceCtorEq,zU,zV,Zf,Zg,Zh,Zi,Zd,Ze,zF,Bool.not_false,g5,c63];refine aG fun A4 b4 e4 z4 B4 K4=>?_;have mM:Bl A4 b4 (iN [i]):=B4;have uL:=NQ i;simp-implicitDefEqProofs only[go_sem,zS,↓reduceIte,Za,Zb,Zc,reduceCtorEq,ae,zU,zV,Zf,Zg,Zh,Zi,Zd,Ze,zF];refine kh (m:=iN [i]) H3.size (OA.ag (KK.trans K4) (by simp)) oA (by have:=K4.size;omega) (aM.bl mM 0 1 1 (by omega) (by simp[aW])) (gH _) rfl (by omega) (by rw[aW,aW];simp;omega) fun v' A5 O5 o5 K5=>?_;simp-implicitDefEqProofs only[go_sem,zS,↓reduceIte,Za,Zb,Zc,reduceCtorEq,ae,zU,zV,Zf,Zg,Zh,Zi,Zd,Ze];exact⟨v',rfl,by rw[hs,if_pos rfl,rD];exact O5,o5,((KA.trans KK).trans K4).trans' K5 fun q hq h=>by omega⟩
 ·rintro g A gi ⟨lv,g5,OA,oA,KA⟩;simp-implicitDefEqProofs only[go_sem,zS,↓reduceIte,Za,Zb,Zc,reduceCtorEq,ae,zU,zV,Zf,Zg,Zh,Zi,Zd,Ze]at g5;simp-implicitDefEqProofs only[go_sem,zS,↓reduceIte,Za,Zb,Zc,reduceCtorEq,ae,zU,zV,Zf,Zg,Zh,Zi,Zd,Ze,g5];rw[hQ];have:=ew.size;exact⟨by rw[WX]at OA;exact OA,fun q hq=>by have:=oA q hq;omega,ew.trans KA⟩
end Go.Mg
