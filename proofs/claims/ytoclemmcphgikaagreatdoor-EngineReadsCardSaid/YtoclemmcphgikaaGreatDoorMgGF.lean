/- Lemmas of ours. No conditions. -/
import Derived.Test.YtoclemmcphgikaaGreatDoorMgGD
open Nat renaming reduceEqDiff→Za,reduceAdd→Zb,reduceMul→Zc
set_option linter.all false
set_option maxRecDepth 100000
namespace Go.Mg
open Go Go.RowKit
def AN (ι:aG):S:=
 kY [kC 6 (.int .u8 0)] (.seq (kY [kA 12 0,kU 13 (.m (.eqn .ptr false (.t 12))),kF 14 13,kS 15 14 false 0,.ge (.t 16) (.t 14) false (.call (ι.f 385) [.t 15]),kS 17 14 false 1,.ge (.t 18) (.t 14) false (.call (ι.f 158) [.t 16,.t 17]),kT 19 14 false (.not (.t 18)),kV 20 (.pick (.t 14) (.c (.bool true)) (.t 19))] (.ite (.v 20) (kY [kC 6 (.int .u8 2)] .ret) .skip)) (.seq (kY [kA 21 0,kU 22 (.nil (.t 21)),kU 23 (.fa 5 (.t 22)),kD 24 23,kA 25 1,kI 26 1 24 25,kN 27 1 26,kA 28 2,.e (.t 29) (.call (ι.f 130) [.t 27,.t 28]),kV 30 (.not (.t 29))] (.ite (.v 30) (kY [kC 6 (.int .u8 3)] .ret) .skip)) (kY [kA 31 0,kA 32 1,kA 33 2,.e (.t 34) (.call (ι.f 380) [.t 31,.t 32,.t 33]),kB 7 34] (.seq (kY [kA 36 0,kU 37 (.nil (.t 36)),kU 38 (.fa 0 (.t 37)),kN 39 5 38,kA 40 7,.e (.t 41) (.call (ι.f 320) [.t 39,.t 40]),kF 35 41,kQ 42 35 0,kQ 43 35 1,.e (.t 8) (.new (ι.t 318) #[.int .i64 0,.int .i64 0]),.e .no (.stn 2 (.t 8) (.t 42)),kB 9 43] (kY [kA 44 9,kV 45 (.not (.t 44))] (.ite (.v 45) (kY [kC 6 (.int .u8 4)] .ret) .skip))) (.seq (kY [kA 47 0,kA 48 7,.e (.t 49) (.call (ι.f 377) [.t 47,.t 48]),kF 46 49,kQ 50 46 0,kQ 51 46 1,kF 10 50,kB 11 51] (kY [kA 52 11,kV 53 (.not (.t 52))] (.ite (.v 53) (kY [kC 6 (.int .u8 5)] .ret) .skip))) (kY [kC 6 (.int .u8 1)] .ret))))))
def AO:List RV:=[.t 6]
def nJ (F:cf) (el:List (Nat->Bool)) (st:List Int) (step user:Int):Int:=
 if step∈nI (uU F.st.length F.be (cI st st.length))then
  if bZ (el.getD step.toNat fun _=>false) user=true then
   if(jU F (st.set step.toNat user)).2.2=true then if(en (bW F el) (st.set step.toNat user)).isSome=true then 1 else 5 else 4
  else 3
 else 2
structure aeY (P:Program) (ι:aG):Prop where
 IQ:pC P ι (ι.f 385)
 wth:qT P (ι.f 380)
 pln:gI P ι (ι.f 377)
 con:lI P (ι.f 158)
 has:eJ P (ι.f 130)
 hld:vp P ι (ι.f 320)
def vH (P:Program) (ι:aG) (k:FuncId):Prop:=(∀(F:cf) (el:List (Nat->Bool)) (st:List Int) (rb:Nat) (step user:Int) (H:Hp),bg ι H->dI H rb F el st->nD F=true->st.length=el.length->ff (bW F el)->(∀i u,i<st.length->bZ (el.getD i fun _=>false) u=true->Ay (bW F el) (st.set i u))→
  an P k #[.pointer (some ⟨rb,0,none⟩),.int .i64 step,.int .i64 user] H fun r H'=>r=.int .u8 (nJ F el st step user)/\af (fun _=>False) H H')∧
 ∀(step user:Int) H,an P k #[.pointer none,.int .i64 step,.int .i64 user] H fun r H'=>r=.int .u8 2/\H'=H
theorem UE {P:Program} {ι:aG} {k:FuncId} (hk:al P k (AN ι) AO 3) (c:aeY P ι):vH P ι k:=by
 refine⟨fun F el st rb step user H hT hR hok hsl hG hB=>?_,fun step user H=>?_⟩
 case refine_2=>
  refine ah hk (args:=[_,_,_]) (by simp) ?_;unfold AN AO kA kB kF kC kD kI kN kQ kS kT kU kV kY;simp-implicitDefEqProofs only[go_sem,↓reduceIte,Za,Zb,Zc,reduceCtorEq,ae]
 have LD:=hR;obtain⟨s,b,d,a,m,ev,sv,vs,B,hF,he,hel,hst,hes,hsv⟩:=hR;have hn:el.length<=10:=hG.n;refine ah hk (args:=[_,_,_]) (by simp) ?_;unfold AN AO kA kB kF kC kD kI kN kQ kS kT kU kV kY;simp-implicitDefEqProofs only[go_sem,↓reduceIte,Za,Zb,Zc,reduceCtorEq];refine(c.IQ.1 F el st rb H hT LD hok (by omega)).mono ?_;rintro r H1 ⟨hr,K1⟩;rw[ae];simp-implicitDefEqProofs only[go_sem,↓reduceIte,Za,Zb,Zc,reduceCtorEq];have hrl:(uU F.st.length F.be (cI st st.length)).length<=1000000:=by
  have:=DJ F.st.length F.be (cI st st.length);omega
 refine(c.con (nI (uU F.st.length F.be (cI st st.length))) r step H1 hr (by rw[Fk];exact hrl)).mono ?_;rintro r H2 ⟨⟨z,rfl,hz⟩,rfl⟩;rw[ae]
 cases z with
 |false=>
  have:nJ F el st step user=2:=by unfold nJ;rw[if_neg (fun h=>by have:=hz.2 h;cases this)]
  simp-implicitDefEqProofs only[go_sem,↓reduceIte,Za,Zb,Zc,reduceCtorEq,this];exact K1
 |true=>
 have hmem:=hz.1 rfl;obtain⟨j,hj,xa⟩:∃j:Nat,step=(j:Int)/\j<st.length:=by
  unfold nI uU at hmem;obtain⟨j,hj,rfl⟩:=List.mem_map.1 hmem;have:=List.mem_range.1 (List.mem_filter.1 hj).1;exact⟨j,rfl,by omega⟩
 subst hj;have R1:=LD.aj K1;obtain⟨s1,b1,d1,a1,m1,ev1,sv1,vs1,B1,hF1,he1,aeZ,-,hes1,af0⟩:=R1;have c5:cell H2 ⟨rb,5,none⟩=some ev1:=by rw[B1.cell];rfl
 obtain⟨sb,so,sc,e,hld⟩:=he1.ld1 (i:=j) (by omega);have hS:=hes1 j (by omega);generalize vs1.getD j undef=u at*;simp-implicitDefEqProofs only[go_sem,↓reduceIte,Za,Zb,Zc,reduceCtorEq,c5,e,ak,aeZ,hld,aC];refine⟨by omega,?_⟩;refine(c.has _ _ user H2 hS).mono ?_;rintro r H3 ⟨rfl,K3⟩;rw[ae];have gg:=K1.trans K3;have hup:nJ F el st (j:Int) user=if bZ (el.getD j fun _=>false) user=true then
   if(jU F (st.set j user)).2.2=true then if(en (bW F el) (st.set j user)).isSome=true then 1 else 5 else 4
  else 3:=by unfold nJ;rw[if_pos hmem,Int.toNat_natCast]
 cases hme:bZ (el.getD j fun _=>false) user with
 |false=>
  rw[hme]at hup;have P8:nJ F el st (j:Int) user=3:=hup;simp-implicitDefEqProofs only[go_sem,↓reduceIte,Za,Zb,Zc,reduceCtorEq,Bool.not_false,P8];exact gg
 |true=>
 rw[hme,if_pos rfl]at hup;simp-implicitDefEqProofs only[go_sem,↓reduceIte,Za,Zb,Zc,reduceCtorEq,Bool.not_true];refine(c.wth F el st rb j user H3 (LD.aj gg) (by omega) xa).mono ?_;rintro r H4 ⟨O4,o4,K4⟩;have ED:=gg.trans K4;obtain⟨s2,b2,d2,a2,m2,ev2,sv2,vs2,B2,Z0,-,-,-,-,-⟩:=LD.aj ED;have l5:aR H4 ⟨rb,0,none⟩ 5=some #[s2,b2,d2,a2,m2]:=by
  have:=B2.aR (o:=0) (n:=5) (by simp);simpa using this
 rw[ae];simp-implicitDefEqProofs only[go_sem,↓reduceIte,Za,Zb,Zc,reduceCtorEq,l5,aC];refine(c.hld F _ r (st.set j user) H4 (hT.ai ED) Z0 hok O4.sl).mono ?_;rintro r' H5 ⟨rfl,K5⟩;rw[ae];have Pe:=ED.trans K5;unfold abF;simp-implicitDefEqProofs only[go_sem,↓reduceIte,Za,Zb,Zc,reduceCtorEq];refine ay fun H6 b8 e8 z8 B8 K6=>?_;have B8':Bl H6 b8 [.int .i64 0,.int .i64 0]:=B8;have t8:=B8'.bM (o:=0) (n:=2) (by simp);have a8:bO #[Value.int .i64 ((jU F (st.set j user)).1:Int),.int .i64 ((jU F (st.set j user)).2.1:Int)]:=bd rfl;have K7:af (fun q=>q=b8) H6 (aB H6 ⟨b8,0,none⟩ [.int .i64 ((jU F (st.set j user)).1:Int),.int .i64 ((jU F (st.set j user)).2.1:Int)]):=(af.refl _ _).aB _ (.inl rfl);have Tu:af (fun _=>False) H5 (aB H6 ⟨b8,0,none⟩ [.int .i64 ((jU F (st.set j user)).1:Int),.int .i64 ((jU F (st.set j user)).2.1:Int)]):=K6.trans' K7 fun q hq e=>by omega
 simp-implicitDefEqProofs only[go_sem,↓reduceIte,Za,Zb,Zc,reduceCtorEq,t8];refine⟨a8,?_⟩;rw[ae];generalize aB H6 ⟨b8,0,none⟩ [.int .i64 ((jU F (st.set j user)).1:Int),.int .i64 ((jU F (st.set j user)).2.1:Int)]=H7 at Tu⊢;have Z5:=Pe.trans Tu
 cases hho:(jU F (st.set j user)).2.2 with
 |false=>
  rw[hho]at hup;have P8:nJ F el st (j:Int) user=4:=hup;simp-implicitDefEqProofs only[go_sem,↓reduceIte,Za,Zb,Zc,reduceCtorEq,Bool.not_false,P8];exact Z5
 |true=>
 rw[hho,if_pos rfl]at hup;simp-implicitDefEqProofs only[go_sem,↓reduceIte,Za,Zb,Zc,reduceCtorEq,Bool.not_true];refine(c.pln F el st (st.set j user) rb r H7 (hT.ai Z5) (LD.aj Z5) ((O4.ai K5 (by simp)).ai Tu (by simp)).sl hG (hB j user xa hme)).mono ?_;rintro r'' H8 ⟨y,rfl,K8,-⟩;rw[ae]
 cases hso:(en (bW F el) (st.set j user)).isSome with
 |false=>
  rw[hso]at hup;have P8:nJ F el st (j:Int) user=5:=hup;simp-implicitDefEqProofs only[go_sem,↓reduceIte,Za,Zb,Zc,reduceCtorEq,Bool.not_false,P8];exact Z5.trans K8
 |true=>
  rw[hso,if_pos rfl]at hup;simp-implicitDefEqProofs only[go_sem,↓reduceIte,Za,Zb,Zc,reduceCtorEq,Bool.not_true,hup];exact Z5.trans K8
end Go.Mg
namespace Go.Mg
open Go Go.RowKit
def pD (W:Nat->Prop) (H:Hp) (rb:Nat):Prop:=¬W rb/\∃ev,cell H ⟨rb,5,none⟩=some ev/\∀q,aT ev q->¬W q
variable {H:Hp} {rb:Nat}
theorem pD.aj {W:Nat->Prop} {H':Hp} (h:pD W H rb) (hl:rb<H.size) (hk:af (fun _=>False) H H'):pD W H' rb:=by
 obtain⟨h1,ev,h2,h3⟩:=h;exact⟨h1,ev,by rw[hk.cell hl (by simp)];exact h2,h3⟩
theorem dI.lt {F:cf} {el:List (Nat->Bool)} {st:List Int} (h:dI H rb F el st):rb<H.size:=by
 obtain⟨s,b,d,a,m,ev,sv,vs,h1,_⟩:=h;exact h1.lt
end Go.Mg
