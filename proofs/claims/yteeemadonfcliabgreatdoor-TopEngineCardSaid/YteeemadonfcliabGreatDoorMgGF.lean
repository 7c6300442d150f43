/- Lemmas of ours. No conditions. -/
import Derived.Test.YteeemadonfcliabGreatDoorMgGD
open Nat renaming reduceEqDiff→Za,reduceAdd→Zb,reduceMul→Zc,reduceLeDiff→Zd,reduceLT→Ze
open Int renaming reduceBEq→Zf,reduceBNe→Zg,reduceLE→Zh,reduceLT→Zi
set_option linter.all false
set_option maxRecDepth 100000
namespace Go.Mg
open Go Go.RowKit
def xF (ι:aC):S:=
 kY [kC 6 (.int .u8 0)] (.seq (kY [kA 12 0,kU 13 (.m (.eqn .ptr false (.t 12))),kF 14 13,kS 15 14 false 0,.ge (.t 16) (.t 14) false (kg (ι.f 385) [.t 15]),kS 17 14 false 1,.ge (.t 18) (.t 14) false (kg (ι.f 158) [.t 16,.t 17]),kT 19 14 false (.not (.t 18)),kV 20 (.pick (.t 14) (.c (.bool true)) (.t 19))] (.ite (.v 20) (kY [kC 6 (.int .u8 2)] .ret) .skip)) (.seq (kY [kA 21 0,kU 22 (.nil (.t 21)),kU 23 (.fa 5 (.t 22)),kD 24 23,kA 25 1,kI 26 1 24 25,kN 27 1 26,kA 28 2,kc 29 (kg (ι.f 130) [.t 27,.t 28]),kV 30 (.not (.t 29))] (.ite (.v 30) (kY [kC 6 (.int .u8 3)] .ret) .skip)) (kY [kA 31 0,kA 32 1,kA 33 2,kc 34 (kg (ι.f 380) [.t 31,.t 32,.t 33]),kB 7 34] (.seq (kY [kA 36 0,kU 37 (.nil (.t 36)),kU 38 (.fa 0 (.t 37)),kN 39 5 38,kA 40 7,kc 41 (kg (ι.f 320) [.t 39,.t 40]),kF 35 41,kQ 42 35 0,kQ 43 35 1,kc 8 (.new (ι.t 318) #[.int .i64 0,.int .i64 0]),kf (.stn 2 (.t 8) (.t 42)),kB 9 43] (kY [kA 44 9,kV 45 (.not (.t 44))] (.ite (.v 45) (kY [kC 6 (.int .u8 4)] .ret) .skip))) (.seq (kY [kA 47 0,kA 48 7,kc 49 (kg (ι.f 377) [.t 47,.t 48]),kF 46 49,kQ 50 46 0,kQ 51 46 1,kF 10 50,kB 11 51] (kY [kA 52 11,kV 53 (.not (.t 52))] (.ite (.v 53) (kY [kC 6 (.int .u8 5)] .ret) .skip))) (kY [kC 6 (.int .u8 1)] .ret))))))
def xG:List RV:=[.t 6]
def dY (F:dz) (el:List (Nat->Bool)) (st:List Int) (step user:Int):Int:=
 if step∈nI (jb F.st.length F.be (bR st st.length))then
  if bS (el.getD step.toNat fun _=>false) user=true then
   if(jf F (st.set step.toNat user)).2.2=true then if(cM (aZ F el) (st.set step.toNat user)).isSome=true then 1 else 5 else 4
  else 3
 else 2
structure ab6 (P:Program) (ι:aC):Prop where
 Ez:ny P ι (ι.f 385)
 wth:kx P (ι.f 380)
 pln:iH P ι (ι.f 377)
 con:rB P (ι.f 158)
 has:dT P (ι.f 130)
 hld:se P ι (ι.f 320)
def jW (P:Program) (ι:aC) (k:FuncId):Prop:=(∀(F:dz) (el:List (Nat->Bool)) (st:List Int) (rb:Nat) (step user:Int) (H:Hp),aU ι H->fJ H rb F el st->CO F=true->st.length=el.length->bP (aZ F el)->(∀i u,i<st.length->bS (el.getD i fun _=>false) u=true->jV (aZ F el) (st.set i u))→
  ak P k #[.pointer (some ⟨rb,0,none⟩),.int .i64 step,.int .i64 user] H fun r H'=>r=.int .u8 (dY F el st step user)/\af (fun _=>False) H H')∧
 ∀(step user:Int) H,ak P k #[.pointer none,.int .i64 step,.int .i64 user] H fun r H'=>r=.int .u8 2/\H'=H
theorem Ps {P:Program} {ι:aC} {k:FuncId} (hk:an P k (xF ι) xG 3) (c:ab6 P ι):jW P ι k:=by
 refine⟨fun F el st rb step user H hT hR hok hsl hG hB=>?_,fun step user H=>?_⟩
 case refine_2=>
  refine ah hk (args:=[_,_,_]) (by simp) ?_;unfold xF xG kA kB kF kC kD kI kN kQ kS kT kU kV kc kf kg kY;simp-implicitDefEqProofs only[go_sem,zS,↓reduceIte,Za,Zb,Zc,reduceCtorEq,ae,zU,zV,Zf,Zg,Zh,Zi,Zd,Ze,zF]
 have Pr:=hR;obtain⟨s,b,d,a,m,ev,sv,vs,B,hF,he,hel,hst,hes,hsv⟩:=hR;have hn:el.length<=10:=hG.n;refine ah hk (args:=[_,_,_]) (by simp) ?_;unfold xF xG kA kB kF kC kD kI kN kQ kS kT kU kV kc kf kg kY;simp-implicitDefEqProofs only[go_sem,zS,↓reduceIte,Za,Zb,Zc,reduceCtorEq,zU,zV,Zf,Zg,Zh,Zi,Zd,Ze,zF];refine(c.Ez.1 F el st rb H hT Pr hok (by omega)).mono ?_;rintro r H1 ⟨hr,K1⟩;rw[ae];simp-implicitDefEqProofs only[go_sem,zS,↓reduceIte,Za,Zb,Zc,reduceCtorEq,zU,zV,Zf,Zg,Zh,Zi,Zd,Ze,zF];have hrl:(jb F.st.length F.be (bR st st.length)).length<=1000000:=by
  have:=Jx F.st.length F.be (bR st st.length);omega
 refine(c.con (nI (jb F.st.length F.be (bR st st.length))) r step H1 hr (by rw[SY];exact hrl)).mono ?_;rintro r H2 ⟨⟨z,rfl,hz⟩,rfl⟩;rw[ae]
 cases z with
 |false=>
  have:dY F el st step user=2:=by unfold dY;rw[if_neg (fun h=>by have:=hz.2 h;cases this)]
  simp-implicitDefEqProofs only[go_sem,zS,↓reduceIte,Za,Zb,Zc,reduceCtorEq,zU,zV,Zf,Zg,Zh,Zi,Zd,Ze,zF,this];exact K1
 |true=>
 have hmem:=hz.1 rfl;obtain⟨j,hj,tX⟩:∃j:Nat,step=(j:Int)/\j<st.length:=by
  unfold nI jb at hmem;obtain⟨j,hj,rfl⟩:=List.mem_map.1 hmem;have:=List.mem_range.1 (List.mem_filter.1 hj).1;exact⟨j,rfl,by omega⟩
 subst hj;have R1:=Pr.ai K1;obtain⟨s1,b1,d1,a1,m1,Xn,sv1,vs1,B1,Xy,he1,ab7,-,hes1,ab8⟩:=R1;have c5:cell H2 ⟨rb,5,none⟩=some Xn:=by rw[B1.cell];rfl
 obtain⟨sb,so,sc,e,hld⟩:=he1.ld1 (i:=j) (by omega);have hS:=hes1 j (by omega);generalize vs1.getD j undef=u at*;simp-implicitDefEqProofs only[go_sem,zS,↓reduceIte,Za,Zb,Zc,reduceCtorEq,zU,zV,Zf,Zg,Zh,Zi,Zd,Ze,zF,c5,e,aj,ab7,hld,aB];refine⟨by omega,?_⟩;refine(c.has _ _ user H2 hS).mono ?_;rintro r H3 ⟨rfl,K3⟩;rw[ae];have ew:=K1.trans K3;have hup:dY F el st (j:Int) user=if bS (el.getD j fun _=>false) user=true then
   if(jf F (st.set j user)).2.2=true then if(cM (aZ F el) (st.set j user)).isSome=true then 1 else 5 else 4
  else 3:=by unfold dY;rw[if_pos hmem,Int.toNat_natCast]
 cases hme:bS (el.getD j fun _=>false) user with
 |false=>
  rw[hme]at hup;have Ki:dY F el st (j:Int) user=3:=hup;simp-implicitDefEqProofs only[go_sem,zS,↓reduceIte,Za,Zb,Zc,reduceCtorEq,zU,zV,Zf,Zg,Zh,Zi,Zd,Ze,zF,Bool.not_false,Ki];exact ew
 |true=>
 rw[hme,if_pos rfl]at hup;simp-implicitDefEqProofs only[go_sem,zS,↓reduceIte,Za,Zb,Zc,reduceCtorEq,zU,zV,Zf,Zg,Zh,Zi,Zd,Ze,zF,Bool.not_true];refine(c.wth F el st rb j user H3 (Pr.ai ew) (by omega) tX).mono ?_;rintro r H4 ⟨O4,o4,K4⟩;have pD:=ew.trans K4;obtain⟨s2,b2,d2,a2,m2,Xo,sv2,vs2,B2,hF2,-,-,-,-,-⟩:=Pr.ai pD;have l5:aR H4 ⟨rb,0,none⟩ 5=some #[s2,b2,d2,a2,m2]:=by
  have:=B2.aR (o:=0) (n:=5) (by simp);simpa using this
 rw[ae];simp-implicitDefEqProofs only[go_sem,zS,↓reduceIte,Za,Zb,Zc,reduceCtorEq,zU,zV,Zf,Zg,Zh,Zi,Zd,Ze,zF,l5,aB];refine(c.hld F _ r (st.set j user) H4 (hT.ag pD) hF2 hok O4.sl).mono ?_;rintro r' H5 ⟨rfl,K5⟩;rw[ae];have Cw:=pD.trans K5;unfold Xa;simp-implicitDefEqProofs only[go_sem,zS,↓reduceIte,Za,Zb,Zc,reduceCtorEq,zU,zV,Zf,Zg,Zh,Zi,Zd,Ze,zF];refine al fun H6 b8 e8 z8 B8 K6=>?_;have Y0:Bl H6 b8 [.int .i64 0,.int .i64 0]:=B8;have t8:=Y0.bK (o:=0) (n:=2) (by simp);have a8:bI #[Value.int .i64 ((jf F (st.set j user)).1:Int),.int .i64 ((jf F (st.set j user)).2.1:Int)]:=bg rfl;have K7:af (fun q=>q=b8) H6 (az H6 ⟨b8,0,none⟩ [.int .i64 ((jf F (st.set j user)).1:Int),.int .i64 ((jf F (st.set j user)).2.1:Int)]):=(af.refl _ _).az _ (.inl rfl);have BM:af (fun _=>False) H5 (az H6 ⟨b8,0,none⟩ [.int .i64 ((jf F (st.set j user)).1:Int),.int .i64 ((jf F (st.set j user)).2.1:Int)]):=K6.trans' K7 fun q hq e=>by omega
 simp-implicitDefEqProofs only[go_sem,zS,↓reduceIte,Za,Zb,Zc,reduceCtorEq,zU,zV,Zf,Zg,Zh,Zi,Zd,Ze,zF,t8];refine⟨a8,?_⟩;rw[ae];generalize az H6 ⟨b8,0,none⟩ [.int .i64 ((jf F (st.set j user)).1:Int),.int .i64 ((jf F (st.set j user)).2.1:Int)]=H7 at BM⊢;have AE:=Cw.trans BM
 cases hho:(jf F (st.set j user)).2.2 with
 |false=>
  rw[hho]at hup;have Ki:dY F el st (j:Int) user=4:=hup;simp-implicitDefEqProofs only[go_sem,zS,↓reduceIte,Za,Zb,Zc,reduceCtorEq,zU,zV,Zf,Zg,Zh,Zi,Zd,Ze,zF,Bool.not_false,Ki];exact AE
 |true=>
 rw[hho,if_pos rfl]at hup;simp-implicitDefEqProofs only[go_sem,zS,↓reduceIte,Za,Zb,Zc,reduceCtorEq,zU,zV,Zf,Zg,Zh,Zi,Zd,Ze,zF,Bool.not_true];refine(c.pln F el st (st.set j user) rb r H7 (hT.ag AE) (Pr.ai AE) ((O4.ag K5 (by simp)).ag BM (by simp)).sl hG (hB j user tX hme)).mono ?_;rintro r'' H8 ⟨y,rfl,K8,-⟩;rw[ae]
 cases hso:(cM (aZ F el) (st.set j user)).isSome with
 |false=>
  rw[hso]at hup;have Ki:dY F el st (j:Int) user=5:=hup;simp-implicitDefEqProofs only[go_sem,zS,↓reduceIte,Za,Zb,Zc,reduceCtorEq,zU,zV,Zf,Zg,Zh,Zi,Zd,Ze,zF,Bool.not_false,Ki];exact AE.trans K8
 |true=>
  rw[hso,if_pos rfl]at hup;simp-implicitDefEqProofs only[go_sem,zS,↓reduceIte,Za,Zb,Zc,reduceCtorEq,zU,zV,Zf,Zg,Zh,Zi,Zd,Ze,zF,Bool.not_true,hup];exact AE.trans K8
end Go.Mg
namespace Go.Mg
open Go Go.RowKit
def Ru (ι:aC):S:=
 (.dr (kW 37 (.mv (.v 0)) (kW 38 (.nil (.t 37)) (kW 39 (.fa 0 (.t 38)) (kW 40 (.m (.ldn 5 (.t 39))) (kW 41 (.mv (.v 0)) (kW 42 (.nil (.t 41)) (kW 43 (.fa 5 (.t 42)) (kW 44 (.ld (.t 43)) (kW 45 (.mv (.v 0)) (kW 46 (.mv (.v 1)) (kW 47 (.mv (.v 2)) (ka 48 (kg (ι.f 380) [.t 45,.t 46,.t 47]) (kW 49 (.m (.gz #[kZ,kZ,kZ,kZ,kZ,kZ,kZ] [(0,(5,.t 40)),(5,(1,.t 44)),(6,(1,.t 48))])) (ka 50 (.box (ι.t 387) (.t 49)) (kX 6 (.mv (.t 50)) (kX 7 (.mv (.c (.int .i64 0))) .done)) .wnil)) .wnil)))))))))))))
def xH (ι:aC):S:=
 kY [kC 6 (.pointer .none),kC 7 (.int .i64 0)] (.seq (kY [kA 8 0,kU 9 (.m (.eqn .ptr false (.t 8))),kF 10 9,kS 11 10 false 1,kT 12 10 false (.cm .lss .i64 (.t 11) (.c (.int .i64 0))),kU 13 (.pick (.t 10) (.c (.bool true)) (.t 12)),kF 14 13,kS 15 14 false 1,kS 16 14 false 0,kT 17 14 false (.nil (.t 16)),kT 18 14 false (.fa 6 (.t 17)),kT 19 14 false (.ld (.t 18)),kT 20 14 false (.m (.lenl (.t 19))),kT 21 14 false (.cm .geq .i64 (.t 15) (.t 20)),kU 22 (.pick (.t 14) (.c (.bool true)) (.t 21)),kF 23 22,kS 24 23 false 2,kT 25 23 false (.cm .lss .i64 (.t 24) (.c (.int .i64 1))),kU 26 (.pick (.t 23) (.c (.bool true)) (.t 25)),kF 27 26,kS 28 27 false 2,kT 29 27 false (.cm .gtr .i64 (.t 28) (.c (.int .i64 256))),kV 30 (.pick (.t 27) (.c (.bool true)) (.t 29))] (.ite (.v 30) (kY [kC 6 (.pointer .none),kC 7 (.int .i64 1)] .ret) .skip)) (.seq (kY [kA 31 0,kA 32 1,kA 33 2,kd 34 (kg (ι.f 386) [.t 31,.t 32,.t 33])] (.blk 0 (kY [kU 36 (.cm .eql .u8 (.v 34) (.c (.int .u8 1))),kB 35 36] (.ite (.v 35) (.seq (Ru ι) .ret) (kY [kU 52 (.cm .eql .u8 (.v 34) (.c (.int .u8 2))),kB 51 52] (.ite (.v 51) (kY [kC 6 (.pointer .none),kC 7 (.int .i64 7)] .ret) (kY [kU 54 (.cm .eql .u8 (.v 34) (.c (.int .u8 3))),kB 53 54] (.ite (.v 53) (kY [kC 6 (.pointer .none),kC 7 (.int .i64 11)] .ret) .skip)))))))) (kY [kC 6 (.pointer .none),kC 7 (.int .i64 12)] .ret)))
def xI:List RV:=[.t 6,.t 7]
def lU (F:dz) (el:List (Nat->Bool)) (st:List Int) (step user:Int):Int:=
 if step<0\/step≥(st.length:Int)\/user<1\/user>256 then 1 else if dY F el st step user=1 then 0 else if dY F el st step user=2 then 7 else if dY F el st step user=3 then 11 else 12
def Kj (W:Nat->Prop) (H:Hp) (rb:Nat):Prop:=¬W rb/\∃ev,cell H ⟨rb,5,none⟩=some ev/\∀q,aV ev q->¬W q
variable {H:Hp} {rb:Nat}
theorem Kj.ai {W:Nat->Prop} {H':Hp} (h:Kj W H rb) (hl:rb<H.size) (hk:af (fun _=>False) H H'):Kj W H' rb:=by
 obtain⟨h1,ev,h2,h3⟩:=h;exact⟨h1,ev,by rw[hk.cell hl (by simp)];exact h2,h3⟩
theorem fJ.lt {F:dz} {el:List (Nat->Bool)} {st:List Int} (h:fJ H rb F el st):rb<H.size:=by
 obtain⟨s,b,d,a,m,ev,sv,vs,h1,_⟩:=h;exact h1.lt
def nz (P:Program) (ι:aC) (k:FuncId):Prop:=(∀(F:dz) (el:List (Nat->Bool)) (st:List Int) (rb:Nat) (step user:Int) (H:Hp),aU ι H->fJ H rb F el st->CO F=true->st.length=el.length->bP (aZ F el)->(∀i u,i<st.length->bS (el.getD i fun _=>false) u=true->jV (aZ F el) (st.set i u))→
  ak P k #[.pointer (some ⟨rb,0,none⟩),.int .i64 step,.int .i64 user] H fun r H'=>af (fun _=>False) H H'/\((lU F el st step user≠0/\r=.tuple #[.pointer none,.int .i64 (lU F el st step user)])\/(lU F el st step user=0/\∃E8,r=.tuple #[.pointer (some ⟨E8,0,none⟩),.int .i64 0]/\fJ H' E8 F el (st.set step.toNat user)/\∀W:Nat->Prop,(∀q,W q->q<H.size)->Kj W H rb->Kj W H' E8)))∧
 ∀(step user:Int) H,ak P k #[.pointer none,.int .i64 step,.int .i64 user] H fun r H'=>r=.tuple #[.pointer none,.int .i64 1]/\H'=H
theorem Pt {P:Program} {ι:aC} {k:FuncId} (hk:an P k (xH ι) xI 3) (ha:jW P ι (ι.f 386)) (hw:kx P (ι.f 380)):nz P ι k:=by
 refine⟨fun F el st rb step user H hT hR hok hsl hG hB=>?_,fun step user H=>?_⟩
 case refine_2=>
  refine ah hk (args:=[_,_,_]) (by simp) ?_;unfold xH xI kA kB kF kC kS kT kU kV kd kg kY;simp-implicitDefEqProofs only[go_sem,zS,↓reduceIte,Za,Zb,Zc,reduceCtorEq,ae,zU,zV,Zf,Zg,Zh,Zi,Zd,Ze,zF]
 have hn:el.length<=10:=hG.n;obtain⟨sv,c6,hsv⟩:=hR.Ai;have lv:aO sv=st.length:=by rw[hsv.len,aA]
 refine qI fun Q hQ=>?_;refine ah hk (args:=[_,_,_]) (by simp) ?_;unfold xH xI kA kB kF kC kS kT kU kV kd kg kY;have bad:step<0\/step≥(st.length:Int)\/user<1\/user>256->Q (.tuple #[.pointer none,.int .i64 1]) H:=fun h=>by
  have:lU F el st step user=1:=by unfold lU;rw[if_pos h]
  rw[hQ,this];exact⟨af.refl _ _,.inl ⟨by decide,rfl⟩⟩
 by_cases h1:step<0
 ·have d1:decide (step<0)=true:=decide_eq_true h1;simp-implicitDefEqProofs only[go_sem,zS,↓reduceIte,Za,Zb,Zc,reduceCtorEq,ae,zU,zV,Zf,Zg,Zh,Zi,Zd,Ze,zF,d1];exact bad (.inl h1)
 have d1:decide (step<0)=false:=decide_eq_false h1
 by_cases h2:step≥(st.length:Int)
 ·have d2:decide (step≥(st.length:Int))=true:=decide_eq_true h2;simp-implicitDefEqProofs only[go_sem,zS,↓reduceIte,Za,Zb,Zc,reduceCtorEq,ae,zU,zV,Zf,Zg,Zh,Zi,Zd,Ze,zF,d1,c6,hsv.aq,lv,d2];exact bad (.inr (.inl h2))
 have d2:decide (step≥(st.length:Int))=false:=decide_eq_false h2
 by_cases h3:user<1
 ·have d3:decide (user<1)=true:=decide_eq_true h3;simp-implicitDefEqProofs only[go_sem,zS,↓reduceIte,Za,Zb,Zc,reduceCtorEq,ae,zU,zV,Zf,Zg,Zh,Zi,Zd,Ze,zF,d1,c6,hsv.aq,lv,d2,d3];exact bad (.inr (.inr (.inl h3)))
 have d3:decide (user<1)=false:=decide_eq_false h3
 by_cases h4:user>256
 ·have d4:decide (user>256)=true:=decide_eq_true h4;simp-implicitDefEqProofs only[go_sem,zS,↓reduceIte,Za,Zb,Zc,reduceCtorEq,ae,zU,zV,Zf,Zg,Zh,Zi,Zd,Ze,zF,d1,c6,hsv.aq,lv,d2,d3,d4];exact bad (.inr (.inr (.inr h4)))
 have d4:decide (user>256)=false:=decide_eq_false h4;have mu:¬(step<0\/step≥(st.length:Int)\/user<1\/user>256):=by omega
 simp-implicitDefEqProofs only[go_sem,zS,↓reduceIte,Za,Zb,Zc,reduceCtorEq,zU,zV,Zf,Zg,Zh,Zi,Zd,Ze,zF,d1,c6,hsv.aq,lv,d2,d3,d4];refine(ha.1 F el st rb step user H hT hR hok hsl hG hB).mono ?_;rintro r H1 ⟨rfl,K1⟩;rw[ae]
 by_cases a1:dY F el st step user=1
 ·have hg:lU F el st step user=0:=by unfold lU;rw[if_neg mu,if_pos a1]
  have b1:(dY F el st step user==1)=true:=by rw[a1];rfl
  obtain⟨j,rfl⟩:∃j:Nat,step=(j:Int):=⟨step.toNat,by omega⟩
  simp-implicitDefEqProofs only[go_sem,zS,↓reduceIte,Za,Zb,Zc,reduceCtorEq,zU,zV,Zf,Zg,Zh,Zi,Zd,Ze,zF,b1];have R1:=hR.ai K1;have R1':=R1;obtain⟨s,b,d,a,m,ev,sv1,vs,B,hF,he,hel,hst,hes,ab8⟩:=R1;obtain⟨ea,ec,rfl,-⟩:=he.mk;have c5:cell H1 ⟨rb,5,none⟩=some (.slice ea vs.length ec):=by rw[B.cell];rfl
  have l5:aR H1 ⟨rb,0,none⟩ 5=some #[s,b,d,a,m]:=by
   have:=B.aR (o:=0) (n:=5) (by simp);simpa using this
  unfold Ru kW kX ka kg kZ;refine bj (fun _=>False) ?_;simp-implicitDefEqProofs only[go_sem,zS,↓reduceIte,Za,Zb,Zc,reduceCtorEq,zU,zV,Zf,Zg,Zh,Zi,Zd,Ze,zF,c5,l5,aB];refine(hw F el st rb j user H1 R1' (by omega) (by omega)).mono ?_;rintro r H2 ⟨O,o,K2⟩;obtain⟨ra,rn,rc,rfl⟩:=O.shape;rw[aF];refine⟨K2,?_⟩;simp-implicitDefEqProofs only[go_sem,zS,↓reduceIte,Za,Zb,Zc,reduceCtorEq,zU,zV,Zf,Zg,Zh,Zi,Zd,Ze,zF];have jo:=K1.trans K2;have Kp:∀(T:TypeId) (z:Array Value),af (fun _=>False) H2 (H2.push (.cells z T)):=fun T z=>(af.refl _ _).push _;refine⟨(af.refl _ _).push _,?_⟩;rw[hQ];refine⟨jo.trans (Kp _ _),.inr ⟨hg,H2.size,rfl,?_⟩⟩;rw[Int.toNat_natCast];refine⟨⟨s,b,d,a,m,_,_,vs,Bl.cH _ _ _,hF.ai (K2.trans (Kp _ _)),he.ag (K2.trans (Kp _ _)) (by simp),hel,hst,fun i hi=>(hes i hi).ai (K2.trans (Kp _ _)),O.sl.ag (Kp _ _) (by simp)⟩,fun W hW hA=>?_⟩;obtain⟨a1,ev',a2,a3⟩:=hA.ai hR.lt K1;rw[c5]at a2
  cases a2
  refine⟨fun h=>?_,_,(Bl.cell (Bl.cH _ _ _) 5).trans rfl,a3⟩;have:=hW _ h;have:=jo.size;omega
 have b1:(dY F el st step user==1)=false:=by simpa using a1
 by_cases a2:dY F el st step user=2
 ·have hg:lU F el st step user=7:=by unfold lU;rw[if_neg mu,if_neg a1,if_pos a2]
  have b2:(dY F el st step user==2)=true:=by rw[a2];rfl
  simp-implicitDefEqProofs only[go_sem,zS,↓reduceIte,Za,Zb,Zc,reduceCtorEq,zU,zV,Zf,Zg,Zh,Zi,Zd,Ze,zF,b1,b2];rw[hQ,hg];exact⟨K1,.inl ⟨by decide,rfl⟩⟩
 have b2:(dY F el st step user==2)=false:=by simpa using a2
 by_cases a3:dY F el st step user=3
 ·have hg:lU F el st step user=11:=by unfold lU;rw[if_neg mu,if_neg a1,if_neg a2,if_pos a3]
  have b3:(dY F el st step user==3)=true:=by rw[a3];rfl
  simp-implicitDefEqProofs only[go_sem,zS,↓reduceIte,Za,Zb,Zc,reduceCtorEq,zU,zV,Zf,Zg,Zh,Zi,Zd,Ze,zF,b1,b2,b3];rw[hQ,hg];exact⟨K1,.inl ⟨by decide,rfl⟩⟩
 have b3:(dY F el st step user==3)=false:=by simpa using a3
 have hg:lU F el st step user=12:=by unfold lU;rw[if_neg mu,if_neg a1,if_neg a2,if_neg a3]
 simp-implicitDefEqProofs only[go_sem,zS,↓reduceIte,Za,Zb,Zc,reduceCtorEq,zU,zV,Zf,Zg,Zh,Zi,Zd,Ze,zF,b1,b2,b3];rw[hQ,hg];exact⟨K1,.inl ⟨by decide,rfl⟩⟩
end Go.Mg
