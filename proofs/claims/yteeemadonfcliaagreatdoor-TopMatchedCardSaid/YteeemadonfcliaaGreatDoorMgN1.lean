/- Lemmas of ours. No conditions. -/
import Derived.Test.YteeemadonfcliaaGreatDoorMgLib
open Nat renaming reduceEqDiff→Za,reduceAdd→Zb,reduceMul→Zc
set_option linter.all false
set_option maxRecDepth 100000
namespace Go.Mg
open Go Go.RowKit
def F0 (ι:aJ):S:=
 kY [kC 0 (kZ)] (kY [kc 1 (.cj (ι.t 67) 1 20 [.c (.string ⟨#[97,108,108]⟩),.c (.string ⟨#[97,110,100]⟩),.c (.string ⟨#[97,115,115,105,103,110]⟩),.c (.string ⟨#[98,121]⟩),.c (.string ⟨#[99,111,117,110,116]⟩),.c (.string ⟨#[100,101,99,108,97,114,101]⟩),.c (.string ⟨#[100,121,110,97,109,105,99]⟩),.c (.string ⟨#[101,110,102,111,114,99,101]⟩),.c (.string ⟨#[102,97,108,115,101]⟩),.c (.string ⟨#[102,111,114]⟩),.c (.string ⟨#[105,102]⟩),.c (.string ⟨#[109,101,109,98,101,114,115]⟩),.c (.string ⟨#[110,111,110,101]⟩),.c (.string ⟨#[110,111,116]⟩),.c (.string ⟨#[111,110]⟩),.c (.string ⟨#[111,114]⟩),.c (.string ⟨#[114,101,118,111,107,101]⟩),.c (.string ⟨#[115,116,97,116,105,99]⟩),.c (.string ⟨#[116,114,117,101]⟩),.c (.string ⟨#[117,115,101,114,115]⟩)]),kB 0 1] .ret)
def F1:List RV:=[.t 0]
def yW (ι:aJ):S:=
 kY [kC 4 (.int .i64 0)] (.seq (kY [kA 6 0,kV 7 (.m (.lenl (.t 6))),kC 8 (.int .i64 0)] (.blk 0 (.loop (kY [kH 9 8 7] (.seq (.ite (.v 9) .skip (.exit 0)) (.seq (.blk 1 (kY [kA 10 8,kB 5 10] (kY [kA 11 1,kA 12 0,kA 13 5,kI 14 1 12 13,kD 15 14,kV 16 (.sc .eql (.t 11) (.t 15))] (.ite (.v 16) (kY [kA 17 5,kB 4 17] .ret) .skip)))) (.reg [ke 18 8,kB 8 18]))))))) (kY [kC 4 (.int .i64 (-1))] .ret))
def yX:List RV:=[.t 4]
def tZ (ι:aJ):S:=
 kY [kC 4 (.bool false)] (kY [kA 5 0,kA 6 1,kc 7 (kg (ι.f 70) [.t 5,.t 6]),kU 8 (.cm .geq .i64 (.t 7) (.c (.int .i64 0))),kB 4 8] .ret)
def ua:List RV:=[.t 4]
def mu (ι:aJ):S:=
 kY [kC 2 (.bool false)] (kY [kA 3 0,kU 4 (.cm .geq .u8 (.t 3) (.c (.int .u8 97))),kF 5 4,kS 6 5 true 0,kT 7 5 true (.cm .leq .u8 (.t 6) (.c (.int .u8 122))),kJ 8 5 7,kB 2 8] .ret)
def mw:List RV:=[.t 2]
def pk (ι:aJ):S:=
 kY [kC 3 (.bool false)] (kY [kU 4 (.ld (.v 1)),kA 5 0,kc 6 (.callv (.t 4) [.t 5]),kF 7 6,kS 8 7 false 0,kT 9 7 false (.cm .geq .u8 (.t 8) (.c (.int .u8 48))),kT 10 7 false (.mv (.t 9)),kS 11 10 true 0,kT 12 10 true (.cm .leq .u8 (.t 11) (.c (.int .u8 57))),kT 13 7 false (.pick (.t 10) (.t 12) (.c (.bool false))),kU 14 (.pick (.t 7) (.c (.bool true)) (.t 13)),kF 15 14,kS 16 15 false 0,kT 17 15 false (.cm .eql .u8 (.t 16) (.c (.int .u8 95))),kU 18 (.pick (.t 15) (.c (.bool true)) (.t 17)),kB 3 18] .ret)
def pn:List RV:=[.t 3]
def iZ (ι:aJ):S:=
 kY [kC 2 (.bool false)] (.seq (kY [kA 6 0,kU 7 (.m (.lens (.t 6))),kU 8 (.cm .eql .i64 (.t 7) (.c (.int .i64 0))),kF 9 8,kS 10 9 false 0,kT 11 9 false (.m (.lens (.t 10))),kT 12 9 false (.cm .gtr .i64 (.t 11) (.c (.int .i64 12))),kU 13 (.pick (.t 9) (.c (.bool true)) (.t 12)),kF 14 13,.ge (.t 15) (.t 14) false (kg (ι.f 68) []),kS 16 14 false 0,.ge (.t 17) (.t 14) false (kg (ι.f 71) [.t 15,.t 16]),kV 18 (.pick (.t 14) (.c (.bool true)) (.t 17))] (.ite (.v 18) (kY [kC 2 (.bool false)] .ret) .skip)) (kY [kd 3 (.new (ι.t 74) #[.nilFunc]),kf (.st (.v 3) (.c (.func (.func (ι.f 72)) #[] #[])))] (kY [kU 19 (.m (.mkf (ι.f 73) [] [.v 3])),kB 4 19] (.seq (kY [kA 20 0,kV 21 (.m (.lens (.t 20))),kC 22 (.int .i64 0)] (.blk 0 (.loop (kY [kH 23 22 21] (.seq (.ite (.v 23) .skip (.exit 0)) (.seq (.blk 1 (kY [kA 24 22,kB 5 24] (.seq (.dr (kW 25 (.mv (.v 4)) (kW 26 (.mv (.v 0)) (kW 27 (.mv (.v 5)) (kW 28 (.m (.ixs (.t 26) (.t 27))) (ka 29 (.callv (.t 25) [.t 28]) (kW 30 (.not (.t 29)) (kW 31 (.mv (.t 30)) (.px (.t 32) (.some (.t 31,false)) (.mv (.v 5)) (.px (.t 33) (.some (.t 31,false)) (.cm .eql .i64 (.t 32) (.c (.int .i64 0))) (.px (.t 34) (.some (.t 31,false)) (.mv (.t 33)) (.px (.t 35) (.some (.t 34,true)) (.ld (.v 3)) (.px (.t 36) (.some (.t 34,true)) (.mv (.v 0)) (.px (.t 37) (.some (.t 34,true)) (.mv (.v 5)) (.px (.t 38) (.some (.t 34,true)) (.m (.ixs (.t 36) (.t 37))) (.wcons (.t 39) (.some (.t 34,true)) (.callv (.t 35) [.t 38]) (.px (.t 40) (.some (.t 34,true)) (.not (.t 39)) (.px (.t 41) (.some (.t 31,false)) (.pick (.t 34) (.t 40) (.c (.bool false))) (kX 42 (.pick (.t 31) (.c (.bool true)) (.t 41)) .done))) .wnil)))))))))) .wnil)))))) (.ite (.v 42) (kY [kC 2 (.bool false)] .ret) .skip)))) (.reg [ke 43 22,kB 22 43]))))))) (kY [kC 2 (.bool true)] .ret)))))
def i6:List RV:=[.t 2]
abbrev sV (s:List UInt8):Value:=.string ⟨s.toArray⟩
def sL (l:List (List UInt8)):List Value:=l.map sV
theorem my (l:List (List UInt8)):(sL l).length=l.length:=by simp[sL]
theorem OR (l:List (List UInt8)) (i:Nat) (h:i<l.length):(sL l)[i]?=some (sV (l.getD i [])):=by simp[sL,h]
def OT:List (List UInt8):=[[97,108,108],[97,110,100],[97,115,115,105,103,110],[98,121],[99,111,117,110,116],[100,101,99,108,97,114,101],[100,121,110,97,109,105,99],[101,110,102,111,114,99,101],[102,97,108,115,101],[102,111,114],[105,102],[109,101,109,98,101,114,115],[110,111,110,101],[110,111,116],[111,110],[111,114],[114,101,118,111,107,101],[115,116,97,116,105,99],[116,114,117,101],[117,115,101,114,115]]
def dB (c:UInt8):Bool:=decide ((97:Int)<=(c.toNat:Int))&&decide ((c.toNat:Int)<=122)
def fW (c:UInt8):Bool:=dB c||(decide ((48:Int)<=(c.toNat:Int))&&decide ((c.toNat:Int)<=57))||((c.toNat:Int)==95)
def cB (s:List UInt8):Bool:=decide (s.length≠0)&&decide (s.length<=12)&&!(decide (s∈OT))&&s.all fW&&dB (s.getD 0 0)
def F3 (P:Program) (k:FuncId):Prop:=∀H,an P k #[] H fun r H'=>r=.slice (some ⟨H.size,0,none⟩) 20 20/\Bl H' H.size (sL OT)/\af (fun _=>False) H H'/\H'.size=H.size+1
variable {P:Program} {ι:aJ} {k:FuncId} {l:List (List UInt8)} {s:List UInt8}
theorem OU (hk:aq P k (F0 ι) F1 0):F3 P k:=by
 intro H;refine ah hk (args:=[]) (by simp) ?_;unfold F0 F1 kB kC kc kY kZ;simp only[go_sem,zS,↓reduceIte,Za,Zb,Zc,reduceCtorEq];refine aF fun H1 b1 e1 z1 B1 K1=>?_;subst e1;simp only[go_sem,zS,↓reduceIte,Za,Zb,Zc,reduceCtorEq,ae];exact⟨B1,K1,z1⟩
theorem Sy {H:Hp} {b:Nat} (h:Bl H b (sL OT)):aG H (.slice (some ⟨b,0,none⟩) 20 20) (sL OT):=by
 have:=aG.bl h 0 20 20 (by omega) (by rw[my];decide);rw[List.drop_zero,List.take_of_length_le (by rw[my];decide)]at this;exact this
def wS (l:List (List UInt8)) (s:List UInt8):Option Nat:=l.findIdx? (·==s)
theorem De (h:∀j,j<l.length->l.getD j []≠s):wS l s=none:=by
 unfold wS;rw[List.findIdx?_eq_none_iff];intro x hx;obtain⟨j,hj,rfl⟩:=List.getElem_of_mem hx;have:=h j hj;simpa[hj]using this
theorem Df {i:Nat} (hi:i<l.length) (h1:l.getD i []=s) (h:∀j,j<i->l.getD j []≠s):wS l s=some i:=by
 unfold wS;rw[List.findIdx?_eq_some_iff_getElem];refine⟨hi,?_,fun j hj=>?_⟩
 ·simpa[hi]using h1
 ·have:=h j hj;simpa[show j<l.length by omega]using this
theorem wT (l:List (List UInt8)) (s:List UInt8):(wS l s).isSome=decide (s∈l):=by
 unfold wS;rw[List.findIdx?_isSome]
 by_cases h:s∈l
 ·rw[decide_eq_true h,List.any_eq_true];exact⟨s,h,by simp⟩
 ·rw[decide_eq_false h,List.any_eq_false];intro x hx;simp;intro e;exact h (e▸hx)
def wU (P:Program) (k:FuncId):Prop:=∀(l:List (List UInt8)) (s:List UInt8) (v:Value) (H:Hp),aG H v (sL l)->l.length<=1000000->an P k #[v,sV s] H fun r H'=>r=.int .i64 (match wS l s with|some i=>(i:Int)|none=>-1)/\H'=H
theorem JW (hk:aq P k (yW ι) yX 2):wU P k:=by
 intro l s v H hv hl;refine ah hk (args:=[_,_]) (by simp) ?_;unfold yW yX kA kB kC kD ke kH kI kV kY;simp only[go_sem,zS,↓reduceIte,Za,Zb,Zc,reduceCtorEq,ae,hv.ax,hv.len,my];refine aL [9,5,16,4,8] rfl (fun n f H'=>∃i,i<=l.length/\n=l.length -i/\f 8=.int .i64 i/\(∀j,j<i->l.getD j []≠s)/\H'=H) l.length
  ⟨0,by omega,by omega,rfl,fun j hj=>by omega,rfl⟩ ?_
 rintro n g H' ⟨i,hi,rfl,tF,hx,rfl⟩;simp only[go_sem,zS,↓reduceIte,Za,Zb,Zc,reduceCtorEq,ae]at tF;simp only[go_sem,zS,↓reduceIte,Za,Zb,Zc,reduceCtorEq,ae,tF];refine aC (fun hlt=>?_) (fun gx=>?_)
 ·have ma:i<l.length:=by omega
  obtain⟨b,o,c,rfl,-,hc⟩:=hv.cells (by intro e;have h:=congrArg List.length e;rw[my,List.length_nil]at h;omega);rw[my]at hc;have hci:=hc i ma;rw[OR _ _ ma]at hci;simp(disch:=omega)only[go_sem,zS,↓reduceIte,Za,Zb,Zc,reduceCtorEq,ae,tF,my,hci,ai,Oc];refine And.intro (by omega) ?_;refine aC (fun h1=>?_) (fun h1=>?_)
  ·rw[Df ma h1.symm hx]
  ·simp(disch:=omega)only[go_sem,zS,↓reduceIte,Za,Zb,Zc,reduceCtorEq,ae,tF,IntWalk.i64_in];refine⟨l.length -(i+1),by omega,i+1,by omega,rfl,by simp,fun j hj=>?_⟩
   by_cases e:j=i
   ·subst e;exact fun e=>h1 e.symm
   ·exact hx j (by omega)
 ·have ma:i=l.length:=by omega
  subst ma;rw[De hx]
def rH (P:Program) (k:FuncId):Prop:=∀(l:List (List UInt8)) (s:List UInt8) (v:Value) (H:Hp),aG H v (sL l)->l.length<=1000000->an P k #[v,sV s] H fun r H'=>r=.bool (decide (s∈l))/\H'=H
theorem F4 (hk:aq P k (tZ ι) ua 2) (hi:wU P (ι.f 70)):rH P k:=by
 intro l s v H hv hl;refine ah hk (args:=[_,_]) (by simp) ?_;unfold tZ ua kA kB kC kU kc kg kY;simp only[go_sem,zS,↓reduceIte,Za,Zb,Zc,reduceCtorEq,ae];refine(hi _ _ _ _ hv hl).mono ?_;rintro r H' ⟨rfl,rfl⟩;have:=wT l s
 cases h:wS l s with
 |none=>rw[h]at this;simp only[go_sem,zS,↓reduceIte,Za,Zb,Zc,reduceCtorEq,ae];rw[<-this];rfl
 |some i=>rw[h]at this;simp only[go_sem,zS,↓reduceIte,Za,Zb,Zc,reduceCtorEq,ae];rw[<-this];simp
def ud (P:Program) (k:FuncId):Prop:=bF P k=true/\∀(c:UInt8) (H:Hp),an P k #[.int .u8 c.toNat] H fun r H'=>r=.bool (dB c)/\H'=H
theorem pq (hk:aq P k (mu ι) mw 1):ud P k:=by
 refine⟨hk.body,fun c H=>?_⟩;refine ah hk (args:=[_]) (by simp) ?_;unfold mu mw kA kB kF kC kJ kS kT kU kY
 by_cases h1:(97:Int)<=(c.toNat:Int)<;>by_cases h2:(c.toNat:Int)<=122
 all_goals
  simp only[go_sem,zS,↓reduceIte,Za,Zb,Zc,reduceCtorEq,ae,dB,h1,h2,ge_iff_le]
  try rfl
def BG (P:Program) (k m:FuncId):Prop:=bF P k=true/\∀(c:UInt8) (b:Nat) (H:Hp),Bl H b [.func (.func m) #[] #[]]->an P k #[.int .u8 c.toNat,.pointer (some ⟨b,0,none⟩)] H fun r H'=>r=.bool (fW c)/\H'=H
theorem Dg {m:FuncId} (hk:aq P k (pk ι) pn 2) (hl:ud P m):BG P k m:=by
 refine⟨hk.body,fun c b H hB=>?_⟩;refine ah hk (args:=[_,_]) (by simp) ?_;unfold pk pn kA kB kF kC kS kT kU kc kY;simp only[go_sem,zS,↓reduceIte,Za,Zb,Zc,reduceCtorEq,ae,hB.cell];refine⟨hl.1,?_⟩;refine(hl.2 c H).mono ?_;rintro r H' ⟨rfl,rfl⟩
 by_cases h1:(48:Int)<=(c.toNat:Int)<;>by_cases h2:(c.toNat:Int)<=57<;>by_cases h3:((c.toNat:Int)==95)=true<;>by_cases h0:dB c=true
 all_goals
  try (have h0:dB c=false:=by simpa using h0)
  try (have h3:((c.toNat:Int)==95)=false:=by simpa using h3)
  simp only[go_sem,zS,↓reduceIte,Za,Zb,Zc,reduceCtorEq,ae,fW,h0,h1,h2,h3,ge_iff_le]
  try rfl
def mz (P:Program) (k:FuncId):Prop:=∀(s:List UInt8) (H:Hp),s.length<=1000000->an P k #[sV s] H fun r H'=>r=.bool (cB s)/\af (fun _=>False) H H'
theorem lC (i:Nat) (hi:i<s.length) (h:fW (s.getD i 0)=false\/(i=0/\dB (s.getD i 0)=false)):cB s=false:=by
 rcases h with h|⟨rfl,h⟩
 ·have:s.all fW=false:=by
   rw[List.all_eq_false];refine⟨s[i],by simp,?_⟩;simpa[List.getD_eq_getElem?_getD,hi]using h
  simp[cB,this]
 ·unfold cB;rw[h];simp
theorem wV (h0:s.length≠0) (h1:s.length<=12) (h2:s∉OT) (h3:∀j,j<s.length->fW (s.getD j 0)=true) (h4:dB (s.getD 0 0)=true):cB s=true:=by
 have:s.all fW=true:=by
  rw[List.all_eq_true];intro x hx;obtain⟨j,hj,rfl⟩:=List.getElem_of_mem hx;have:=h3 j hj;simpa[List.getD_eq_getElem?_getD,hj]using this
 unfold cB;rw[this,h4,decide_eq_true h0,decide_eq_true h1,decide_eq_false h2];rfl
theorem Dh (hk:aq P k (iZ ι) i6 1) (hkw:F3 P (ι.f 68)) (hc:rH P (ι.f 71)) (hl:ud P (ι.f 72)) (hin:BG P (ι.f 73) (ι.f 72)):mz P k:=by
 intro s H hs;refine ah hk (args:=[_]) (by simp) ?_;unfold iZ i6 kA kB kF kC ke kH kS kT kU kV kW kX ka kd kf kg kY
 by_cases p0:s.length=0
 ·have e0:((s.length:Int)==0)=true:=by rw[p0];rfl
  have:cB s=false:=by simp[cB,p0]
  simp only[go_sem,zS,↓reduceIte,Za,Zb,Zc,reduceCtorEq,ae,fJ,e0,this];exact af.refl _ _
 have e0:((s.length:Int)==0)=false:=by
  apply beq_eq_false_iff_ne.2;omega
 by_cases p1:(s.length:Int)>12
 ·have:cB s=false:=by
   have:¬s.length<=12:=by omega
   simp[cB,this]
  simp only[go_sem,zS,↓reduceIte,Za,Zb,Zc,reduceCtorEq,ae,fJ,e0,p1,this];exact af.refl _ _
 simp only[go_sem,zS,↓reduceIte,Za,Zb,Zc,reduceCtorEq,ae,fJ,e0,p1];refine(hkw H).mono ?_;rintro r H1 ⟨rfl,B1,K1,z1⟩;simp only[go_sem,zS,↓reduceIte,Za,Zb,Zc,reduceCtorEq,ae];refine(hc OT s _ H1 (Sy B1) (by decide)).mono ?_;rintro r H2 ⟨rfl,rfl⟩
 by_cases p2:s∈OT
 ·have:cB s=false:=by unfold cB;rw[decide_eq_true p2];simp
  rw[this];simp only[go_sem,zS,↓reduceIte,Za,Zb,Zc,reduceCtorEq,ae,p2];exact K1
 simp only[go_sem,zS,↓reduceIte,Za,Zb,Zc,reduceCtorEq,ae,p2];generalize hA:Array.push H2 _=H3;have KA:af (fun _=>False) H2 H3:=by rw[<-hA];exact(af.refl _ _).push _
 have BA:Bl H3 H2.size [.nilFunc]:=by rw[<-hA];exact Bl.cW _ _ _
 have k2:=K1.size;have BF:Bl (al H3 ⟨H2.size,0,none⟩ (.func (.func (ι.f 72)) #[] #[])) H2.size [.func (.func (ι.f 72)) #[] #[]]:=BA.al 0 (.func (.func (ι.f 72)) #[] #[]);have KF:af (fun _=>False) H (al H3 ⟨H2.size,0,none⟩ (.func (.func (ι.f 72)) #[] #[])):=(K1.trans KA).al _ (.inr k2);refine⟨BA.bk (by simp),?_⟩;have hsl:s.length<=12:=by omega
 generalize al H3 _ _=H4 at*;refine aL [23,5,42,2,22] rfl (fun n f H'=>∃i,i<=s.length/\n=s.length -i/\f 22=.int .i64 i/\(∀j,j<i->fW (s.getD j 0)=true)/\(0<i->dB (s.getD 0 0)=true)/\H'=H4) s.length
  ⟨0,by omega,by omega,rfl,fun j hj=>by omega,fun h=>by omega,rfl⟩ ?_
 rintro n g H' ⟨i,hi,rfl,Dj,hx,hx0,rfl⟩;simp only[go_sem,zS,↓reduceIte,Za,Zb,Zc,reduceCtorEq,ae]at Dj;simp only[go_sem,zS,↓reduceIte,Za,Zb,Zc,reduceCtorEq,ae,Dj];refine aC (fun hlt=>?_) (fun gx=>?_)
 ·have ma:i<s.length:=by omega
  have hg:=Fb s i ma;refine bC (fun _=>False) ?_;simp(disch:=omega)only[go_sem,zS,↓reduceIte,Za,Zb,Zc,reduceCtorEq,ae,Dj,fJ,ai,hg];refine⟨⟨by omega,by omega⟩,hin.1,?_⟩;refine(hin.2 _ _ _ BF).mono ?_;rintro r H5 ⟨rfl,rfl⟩
  by_cases c1:fW (s.getD i 0)=true
  ·by_cases c2:i=0
   ·subst c2;have z0:(((0:Nat):Int)==0)=true:=rfl;simp(disch:=omega)only[go_sem,zS,↓reduceIte,Za,Zb,Zc,reduceCtorEq,ae,c1,z0,fJ,ai,hg,BF.cell,Dj];refine⟨af.refl _ _,by omega,hl.1,?_⟩;refine(hl.2 _ _).mono ?_;rintro r H5 ⟨rfl,rfl⟩
    by_cases c3:dB (s.getD 0 0)=true
    ·simp(disch:=omega)only[go_sem,zS,↓reduceIte,Za,Zb,Zc,reduceCtorEq,ae,c3,Dj,IntWalk.i64_in];refine⟨af.refl _ _,s.length -(0+1),by omega,1,by omega,rfl,rfl,fun j hj=>?_⟩;have e:j=0:=by omega
     subst e;exact c1
    ·have c3:dB (s.getD 0 0)=false:=by simpa using c3
     rw[lC 0 ma (.inr ⟨rfl,c3⟩)];simp only[go_sem,zS,↓reduceIte,Za,Zb,Zc,reduceCtorEq,ae,c3];exact⟨af.refl _ _,KF⟩
   ·have z0:((i:Int)==0)=false:=by apply beq_eq_false_iff_ne.2;omega
    simp(disch:=omega)only[go_sem,zS,↓reduceIte,Za,Zb,Zc,reduceCtorEq,ae,c1,z0,Dj,IntWalk.i64_in];refine⟨af.refl _ _,s.length -(i+1),by omega,i+1,by omega,rfl,by simp,fun j hj=>?_,fun _=>hx0 (by omega)⟩
    by_cases e:j=i
    ·subst e;exact c1
    ·exact hx j (by omega)
  ·have c1:fW (s.getD i 0)=false:=by simpa using c1
   rw[lC i ma (.inl c1)];simp only[go_sem,zS,↓reduceIte,Za,Zb,Zc,reduceCtorEq,ae,c1];exact⟨af.refl _ _,KF⟩
 ·have ma:i=s.length:=by omega
  subst ma;rw[wV p0 hsl p2 hx (hx0 (by omega))];exact⟨rfl,KF⟩
end Go.Mg
