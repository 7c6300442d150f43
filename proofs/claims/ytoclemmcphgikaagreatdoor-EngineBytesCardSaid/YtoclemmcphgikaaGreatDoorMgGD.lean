/- Lemmas of ours. No conditions. -/
import Derived.Test.YtoclemmcphgikaaGreatDoorMgGA
open Bool renaming false→ZS,true→ZT
open Decidable renaming decide→ZQ
open Go renaming Value→ZR
open Go.IntKind renaming i64→ZY
open Go.Value renaming agg→Z0,bool→Z5,int→Z8,pointer→Z7,slice→Z6
open Option renaming none→ZU,some→ZV
open List renaming length_nil→Zx
open Nat renaming reduceEqDiff→Za,reduceAdd→Zb,reduceMul→Zc
set_option maxRecDepth 100000
set_option linter.all false
namespace Go.Mg
open Go Go.RowKit
def wZ (V:aH):S:=
 kY [kC 4 (Z8 ZY 0)] (.seq (kY [kA 9 0,kL 10 9,kA 11 1,kV 12 (.cm .neq ZY (.t 10) (.t 11))] (.ite (.v 12) (kY [kC 4 (Z8 ZY 1)] .ret) .skip)) (.seq (kY [kV 13 (.mv (.v 0)),kO 14 13,kC 15 (Z8 ZY 0)] (.blk 0 (.loop (kY [kH 16 15 14] (.seq (.ite (.v 16) .skip (.exit 0)) (.seq (.blk 1 (kY [kK 17 1 13 15,kN 18 1 17,kd 6 (.new (V.t 128) #[kZ]),kf (.stn 1 (.v 6) (.t 18))] (kY [kM 20 1 6,kc 21 (kg (V.f 134) [.t 20]),kF 19 21,kQ 22 19 0,kQ 23 19 1,kB 7 22,kB 8 23] (kY [kA 24 8,kF 25 24,kS 26 25 ZT 7,kT 27 25 ZT (.cm .gtr ZY (.t 26) (.c (Z8 ZY 256))),kJ 28 25 27,kF 29 28,kT 30 29 ZS (.m (.ldn 1 (.v 6))),.ge (.t 31) (.t 29) ZS (kg (V.f 130) [.t 30,.c (Z8 ZY 0)]),kV 32 (.pick (.t 29) (.c (Z5 ZT)) (.t 31))] (.ite (.v 32) (kY [kC 4 (Z8 ZY 2)] .ret) .skip))))) (.reg [ke 33 15,kB 15 33]))))))) (kY [kC 4 (Z8 ZY 0)] .ret)))
def w9:List RV:=[.t 4]
def qG (q:Nat->Bool):Prop:=∃u,q u=ZT/\(u=0\/256<u)
def qH (P:Program) (k:FuncId):Prop:=∀(el:List (Nat->Bool)) (vs:List ZR) (v:ZR) (n:Int) (H:Hp),aP H v vs->vs.length=el.length->el.length<=1000->(∀i<vs.length,aR H (Z0 #[vs.getD i undef]) (el.getD i fun _=>ZS))→
 an P k #[v,Z8 ZY n] H fun r H'=>∃e:Int,r=Z8 ZY e/\af (fun _=>False) H H'/\(((el.length:Int)≠n/\e=1)\/((el.length:Int)=n/\((e=2/\∃i,i<el.length/\qG (el.getD i fun _=>ZS))\/(e=0/\∀i,i<el.length->¬qG (el.getD i fun _=>ZS)))))
variable {P:Program} {V:aH} {k:FuncId} {st:List Int} {i:Nat}
def N6 (hk:ak P k (wZ V) w9 2) (hg:iG P (V.f 134)) (hh:fk P (V.f 130)):qH P k:=by
 intro el vs v n H hv hl DT hes;refine qI fun Q hQ=>?_;refine ah hk (args:=[_,_]) (by simp) ?_;unfold wZ w9 kA kB kF kC ke kH kK kJ kL kM kN kO kQ kS kT kV kc kd kf kg kY kZ;have lv:aW v=el.length:=by rw[hv.len,hl]
 by_cases h:(el.length:Int)=n
 case neg=>
  have d1:((el.length:Int)!=n)=ZT:=bne_iff_ne.2 h;simp only[go_sem,Za,Zb,hv.aq,lv,d1];rw[hQ];exact⟨1,rfl,af.refl _ _,.inl ⟨h,rfl⟩⟩
 have d1:((el.length:Int)!=n)=ZS:=by rw[h];simp
 simp only[go_sem,Za,Zb,hv.aq,lv,d1];refine aF el.length [16,6,7,8,32,4,15] rfl rfl (by omega) (by rfl) (by rfl) (fun i g X=>(∀j,j<i->¬qG (el.getD j fun _=>ZS))/\af (fun _=>False) H X) ⟨fun j h=>by omega,af.refl _ _⟩ ?_ ?_
 ·rintro i g X hi gi gn ⟨hp,KX⟩;simp only[go_sem,Za,Zb,ae]at gi gn;obtain⟨sb,so,sc,e,hld⟩:=(hv.ai KX (by simp)).ld1 (i:=i) (by omega);have hS:=(hes i (by omega)).aj KX;obtain⟨q,hq⟩:∃q,q=el.getD i fun _=>ZS:=⟨_,rfl⟩
  rw[<-hq]at hS;have o1:(vs.getD i undef).oneCell'=ZT:=by
   obtain⟨u,W,e',hV⟩:=hS
   cases e'
   exact aK hV.sl.aq
  generalize vs.getD i undef=u at*;have next:¬qG q->∀j,j<i+1->¬qG (el.getD j fun _=>ZS):=fun hb j hj=>by
   by_cases ej:j=i
   ·rw[ej,<-hq];exact hb
   ·exact hp j (by omega)
  have bad:qG q->∀X',af (fun _=>False) H X'->Q (Z8 ZY 2) X':=fun hb X' K=>by
   rw[hQ];exact⟨2,rfl,K,.inr ⟨h,.inl ⟨rfl,i,hi,by rw[<-hq];exact hb⟩⟩⟩
  simp only[go_sem,Za,Zb,gi,e,al,aC,hl,hld,Nat.mul_one];refine⟨by omega,?_⟩;refine aO [u] (by rfl) rfl rfl (by simp[o1]) fun X1 b6 e6 z6 B6 K6=>?_;have S1:=hS.aj K6;simp only[go_sem,Za,Zb,B6.aL 1 rfl];refine(hg q _ X1 S1).mono ?_;rintro r X2 ⟨hr,K7⟩;have B62:=K7.bl B6 id;have KH2:=(KX.trans K6).trans K7
  -- the question whether 0 is in
  have hm0:cz q 0=q 0:=gB (k:=0) (by omega);rcases hr with⟨rfl,hno⟩|⟨t,rfl,ht⟩
  ·rw[ae];simp-implicitDefEqProofs only[go_sem,↓reduceIte,Za,Zb,Zc,reduceCtorEq,B62.aL 1 rfl];refine(hh q _ 0 X2 (S1.aj K7)).mono ?_;rintro r X3 ⟨rfl,K8⟩;rw[ae,hm0,hno 0];simp only[go_sem,Za,Zb];exact⟨next (fun⟨x,hx,_⟩=>by rw[hno x]at hx;cases hx),KH2.trans K8⟩
  ·by_cases ah4:(t:Int)>256
   ·have d2:ZQ ((t:Int)>256)=ZT:=decide_eq_true ah4;rw[ae];simp only[go_sem,Za,Zb,d2];exact bad ⟨t,ht.1,.inr (by omega)⟩ _ KH2
   ·have d2:ZQ ((t:Int)>256)=ZS:=decide_eq_false ah4;rw[ae];simp-implicitDefEqProofs only[go_sem,↓reduceIte,Za,Zb,Zc,reduceCtorEq,d2,B62.aL 1 rfl];refine(hh q _ 0 X2 (S1.aj K7)).mono ?_;rintro r X3 ⟨rfl,K8⟩;rw[ae,hm0]
    cases h0:q 0 with
    |true=>
     simp only[go_sem,Za,Zb];exact bad ⟨0,h0,.inl rfl⟩ _ (KH2.trans K8)
    |false=>
     simp only[go_sem,Za,Zb];refine⟨next fun⟨x,hx,hx'⟩=>?_,KH2.trans K8⟩;have:=ht.2 x hx;rcases hx' with rfl|hx'
     ·rw[h0]at hx;cases hx
     ·omega
 ·rintro g X -⟨hp,KX⟩;simp only[go_sem,Za,Zb,ae];rw[hQ];exact⟨0,rfl,KX,.inr ⟨h,.inr ⟨rfl,hp⟩⟩⟩
def qJ (V:aH):S:=
 kY [kC 2 (kZ)] (.seq (kY [kA 3 0,kV 4 (.m (.eqn .ptr ZS (.t 3)))] (.ite (.v 4) (kY [kC 2 (kZ)] .ret) .skip)) (kY [kA 5 0,kU 6 (.nil (.t 5)),kU 7 (.fa 6 (.t 6)),kD 8 7,kc 9 (kg (V.f 159) [.t 8]),kB 2 9] .ret))
def qK:List RV:=[.t 2]
def Cg (V:aH):S:=
 kY [kC 6 (kZ)] (kY [kA 8 0,kU 9 (.nil (.t 8)),kU 10 (.fa 6 (.t 9)),kD 11 10,kc 12 (kg (V.f 159) [.t 11]),kB 7 12] (kY [kA 13 7,kA 14 1,kA 15 2,kI 16 1 13 14,kf (.st (.t 16) (.t 15))] (kY [kA 17 7,kB 6 17] .ret)))
def Ch:List RV:=[.t 6]
def Ci (V:aH):S:=
 kY [kC 2 (Z5 ZS)] (kY [kA 3 0,kU 4 (.m (.eqn .ptr ZT (.t 3))),kF 5 4,kS 6 5 ZT 0,kT 7 5 ZT (.nil (.t 6)),kT 8 5 ZT (.fa 6 (.t 7)),kT 9 5 ZT (.ld (.t 8)),.ge (.t 10) (.t 5) ZT (kg (V.f 158) [.t 9,.c (Z8 ZY 0)]),kT 11 5 ZT (.not (.t 10)),kJ 12 5 11,kB 2 12] .ret)
def Cj:List RV:=[.t 2]
def Ck (V:aH):S:=
 kY [kC 2 (kZ)] (.seq (kY [kA 5 0,kV 6 (.m (.eqn .ptr ZS (.t 5)))] (.ite (.v 6) (kY [kC 2 (kZ)] .ret) .skip)) (kY [kA 8 0,kA 9 0,kU 10 (.nil (.t 9)),kU 11 (.fa 6 (.t 10)),kD 12 11,kc 13 (kg (V.f 377) [.t 8,.t 12]),kF 7 13,kQ 14 7 0,kQ 15 7 1,kB 3 14,kF 4 15] (kY [kA 16 3,kB 2 16] .ret)))
def Cl:List RV:=[.t 2]
def cH.yZ {H:Hp} {rb:Nat} {F:cf} {el:List (Nat->Bool)} (h:cH H rb F el st):∃sv,cell H ⟨rb,6,ZU⟩=ZV sv/\aP H sv (iL st):=by
 obtain⟨s,b,d,a,m,ev,sv,vs,h1,h2,h3,h4,h5,h6,h7⟩:=h;exact⟨sv,by rw[h1.cell];rfl,h7⟩
def iO (P:Program) (k:FuncId):Prop:=(∀(F:cf) (el:List (Nat->Bool)) (st:List Int) (rb:Nat) (H:Hp),cH H rb F el st->st.length<=1000->an P k #[Z7 (ZV ⟨rb,0,ZU⟩)] H fun r H'=>br H' r (iL st)/\(∀q,ay r q->H.size<=q)/\af (fun _=>False) H H')∧
 ∀H,an P k #[Z7 ZU] H fun r H'=>r=Z6 ZU 0 0/\H'=H
def N7 (hk:ak P k (qJ V) qK 1) (hc:gA P (V.f 159)):iO P k:=by
 refine⟨fun F el st rb H hR hl=>?_,fun H=>?_⟩
 ·obtain⟨sv,c6,hs⟩:=hR.yZ;refine ah hk (args:=[_]) (by simp) ?_;unfold qJ qK kA kB kC kD kU kV kc kg kY kZ;simp only[go_sem,Za,Zb,c6];refine(hc st sv H hs (by omega)).mono ?_;rintro r H1 ⟨O,o,K⟩;rw[ae];simp only[go_sem,Za,Zb];exact⟨O,o,K⟩
 ·refine ah hk (args:=[_]) (by simp) ?_;unfold qJ qK kA kB kC kD kU kV kc kg kY kZ;simp only[go_sem,Za,Zb,ae]
def nO (P:Program) (k:FuncId):Prop:=∀(F:cf) (el:List (Nat->Bool)) (st:List Int) (rb i:Nat) (u:Int) (H:Hp),cH H rb F el st->st.length<=1000->i<st.length->an P k #[Z7 (ZV ⟨rb,0,ZU⟩),Z8 ZY (i:Int),Z8 ZY u] H fun r H'=>br H' r (iL (st.set i u))/\(∀q,ay r q->H.size<=q)/\af (fun _=>False) H H'
def Sd (hk:ak P k (Cg V) Ch 3) (hc:gA P (V.f 159)):nO P k:=by
 intro F el st rb i u H hR hl hi;obtain⟨sv,c6,hs⟩:=hR.yZ;refine ah hk (args:=[_,_,_]) (by simp) ?_;unfold Cg Ch kA kB kC kD kI kU kc kf kg kY kZ;simp only[go_sem,Za,Zb,c6];refine(hc st sv H hs (by omega)).mono ?_;rintro r H1 ⟨O,o,K⟩;obtain⟨b,c,L,rfl,h1,h2,hB,h3,_⟩:=O.some (by intro e';have:=congrArg List.length e';rw[aA,Zx]at this;omega);rw[aA]at h1 h3⊢;have hb:=o b rfl;have t:=hB.bw (o:=i) (by omega);have O':=rM hB (l:=iL st) (by rw[aA];exact h1) h2 (by rw[aA];exact h3) i (Z8 ZY u) (by rw[aA];exact hi);rw[mq,aA]at O';have K':af (fun q=>q=b) H1 (az H1 ⟨b,i,ZU⟩ (Z8 ZY u)):=(af.refl _ _).az _ (.inl rfl);rw[ae];simp only[go_sem,Za,Zb,al,t];refine⟨by omega,?_⟩;rw[ae];simp only[go_sem,Za,Zb];refine⟨O',fun q hq=>?_,K.trans' K' fun q hq e=>by omega⟩;have vl:q=b:=hq;omega
def xa (P:Program) (k:FuncId):Prop:=(∀(F:cf) (el:List (Nat->Bool)) (st:List Int) (rb:Nat) (H:Hp),cH H rb F el st->st.length<=1000->an P k #[Z7 (ZV ⟨rb,0,ZU⟩)] H fun r H'=>(∃b:Bool,r=.bool b/\(b=ZT↔0∉st))/\H'=H)∧
 ∀H,an P k #[Z7 ZU] H fun r H'=>r=Z5 ZS/\H'=H
def abO (hk:ak P k (Ci V) Cj 1) (hc:mG P (V.f 158)):xa P k:=by
 refine⟨fun F el st rb H hR hl=>?_,fun H=>?_⟩
 ·obtain⟨sv,c6,hs⟩:=hR.yZ;refine ah hk (args:=[_]) (by simp) ?_;unfold Ci Cj kA kB kF kC kJ kS kT kU kg kY;simp-implicitDefEqProofs only[go_sem,↓reduceIte,Za,Zb,Zc,reduceCtorEq,c6];refine(hc st sv 0 H hs (by omega)).mono ?_;rintro r H1 ⟨⟨b,rfl,hb⟩,rfl⟩;rw[ae];simp only[go_sem,Za,Zb];refine⟨!b,rfl,?_⟩
  cases b with
  |true=>simp[hb.1 rfl]
  |false=>simp;exact fun h=>by have:=hb.2 h;cases this
 ·refine ah hk (args:=[_]) (by simp) ?_;unfold Ci Cj kA kB kF kC kJ kS kT kU kg kY;simp only[go_sem,Za,Zb,ae]
def xb (P:Program) (V:aH) (k:FuncId):Prop:=(∀(F:cf) (el:List (Nat->Bool)) (st:List Int) (rb:Nat) (H:Hp),bh V H->cH H rb F el st->eT (bJ F el)->uB (bJ F el) st->an P k #[Z7 (ZV ⟨rb,0,ZU⟩)] H fun r H'=>af (fun _=>False) H H'/\match et (bJ F el) st with|none=>r=Z6 ZU 0 0|some t=>aP H' r (iL t))∧
 ∀H,an P k #[Z7 ZU] H fun r H'=>r=Z6 ZU 0 0/\H'=H
def abP (hk:ak P k (Ck V) Cl 1) (hc:iq P V (V.f 377)):xb P V k:=by
 refine⟨fun F el st rb H hT hR hG hB=>?_,fun H=>?_⟩
 ·obtain⟨sv,c6,hs⟩:=hR.yZ;refine ah hk (args:=[_]) (by simp) ?_;unfold Ck Cl kA kB kF kC kD kQ kU kV kc kg kY kZ;simp only[go_sem,Za,Zb,c6];refine(hc F el st st rb sv H hT hR hs hG hB).mono ?_;rintro r H1 ⟨y,rfl,K,hy⟩;rw[ae];simp only[go_sem,Za,Zb];exact⟨K,hy⟩
 ·refine ah hk (args:=[_]) (by simp) ?_;unfold Ck Cl kA kB kF kC kD kQ kU kV kc kg kY kZ;simp only[go_sem,Za,Zb,ae]
def Cm (V:aH):S:=
 kY [kd 2 (.new (V.t 128) #[kZ])] (kY [kU 6 (.m (.bld #[kZ] [])),kd 3 (.new (V.t 128) #[kZ]),kf (.stn 1 (.v 3) (.t 6))] (.seq (kY [kA 7 0,kd 8 (kg (V.f 379) [.t 7]),kO 9 8,kC 10 (Z8 ZY 0)] (.blk 0 (.loop (kY [kH 11 10 9] (.seq (.ite (.v 11) .skip (.exit 0)) (.seq (.blk 1 (kY [kA 12 10,kK 13 1 8 10,kD 14 13,kB 4 12,kB 5 14] (kY [kA 15 5,kV 16 (.cm .neq ZY (.t 15) (.c (Z8 ZY 0)))] (.ite (.v 16) (.reg [kM 17 1 3,kA 18 4,kc 19 (kg (V.f 131) [.t 17,.t 18]),kf (.stn 1 (.v 3) (.t 19))]) .skip)))) (.reg [ke 20 10,kB 10 20]))))))) (kY [kM 21 1 3,kf (.stn 1 (.v 2) (.t 21))] .ret)))
def Cn:List RV:=[.cn 2 1]
def Co (V:aH):S:=
 kY [kC 2 (kZ)] (kY [kA 3 0,kc 4 (kg (V.f 383) [.t 3]),kc 5 (kg (V.f 139) [.t 4]),kB 2 5] .ret)
def Cp:List RV:=[.t 2]
def Cq (V:aH):S:=
 kY [kC 2 (kZ)] (.seq (kY [kA 3 0,kV 4 (.m (.eqn .ptr ZS (.t 3)))] (.ite (.v 4) (kY [kC 2 (kZ)] .ret) .skip)) (.seq (.dr (kW 5 (.mv (.v 0)) (kW 6 (.nil (.t 5)) (kW 7 (.fa 0 (.t 6)) (kW 8 (.m (.ldn 5 (.t 7))) (kW 9 (.mv (.v 0)) (ka 10 (kg (V.f 383) [.t 9]) (ka 11 (kg (V.f 314) [.t 8,.t 10]) (kX 2 (.mv (.t 11)) .done) .wnil) .wnil))))))) .ret))
def Cr:List RV:=[.t 2]
def cD (st:List Int) (i:Nat) (k:Nat):Bool:=ZQ (k<i)&&ZQ (st.getD k 0≠0)
def IS (hi:i<=1000) (h:st.getD i 0≠0):lO (cD st i) (i:Int)=cD st (i+1):=by
 funext k
 unfold lO cD;rw[Bool.eq_iff_iff];simp only[Bool.or_eq_true,Bool.and_eq_true,decide_eq_true_eq]
 constructor
 ·rintro(⟨h1,h2⟩|⟨h1,h2⟩)
  ·exact⟨by omega,h2⟩
  ·have:k=i:=by omega
   subst this;exact⟨by omega,h⟩
 ·rintro⟨h1,h2⟩
  by_cases e:k=i
  ·exact .inr ⟨by omega,by omega⟩
  ·exact .inl ⟨by omega,h2⟩
def xc (h:st.getD i 0=0):cD st i=cD st (i+1):=by
 funext k
 unfold cD
 by_cases hk:k=i
 ·subst hk;rw[decide_eq_false (show¬(st.getD k 0≠0)from fun hn=>hn h)];simp
 ·have:ZQ (k<i)=ZQ (k<i+1):=by rw[decide_eq_decide];omega
  rw[this]
def nP (P:Program) (k:FuncId):Prop:=(∀(F:cf) (el:List (Nat->Bool)) (st:List Int) (rb:Nat) (H:Hp),cH H rb F el st->st.length<=1000->an P k #[Z7 (ZV ⟨rb,0,ZU⟩)] H fun r H'=>aR H' r (cD st st.length)/\af (fun _=>False) H H'/\∀q,jG r q->H.size<=q)∧
 ∀H,an P k #[Z7 ZU] H fun r H'=>aR H' r (fun _=>ZS)/\af (fun _=>False) H H'
def Sf (hk:ak P k (Cm V) Cn 1) (hs:iO P (V.f 379)) (hw:nC P (V.f 131)):nP P k:=by
 have main:∀(x:ZR) (st:List Int) (H:Hp),(∀X,af (fun _=>False) H X->an P (V.f 379) #[x] X fun r H'=>aP H' r (iL st)/\(∀q,aV r q->X.size<=q)/\af (fun _=>False) X H')->st.length<=1000->an P k #[x] H fun r H'=>aR H' r (cD st st.length)/\af (fun _=>False) H H'/\∀q,jG r q->H.size<=q:=fun x st H hc hl=>by
  refine ah hk (args:=[_]) (by simp) ?_;unfold Cm Cn kA kB kC kD ke kH kK kM kO kU kV kc kd kf kg kY kZ;simp only[go_sem,Za,Zb];refine ax fun H1 b2 e1 z1 B1 K1=>?_;have bL:Bl H1 b2 [Z6 ZU 0 0]:=B1;simp only[go_sem,Za,Zb];refine aO [Z6 ZU 0 0] (by rfl) rfl rfl rfl fun H2 b3 e2 z2 B2 K2=>?_;simp only[go_sem,Za,Zb];refine(hc H2 (K1.trans K2)).mono ?_;rintro r H3 ⟨hr,ho,K3⟩;have tR:=K3.bl B2 id;have jv:=(K2.trans K3).bl bL (by simp);have lr:aW r=st.length:=by rw[hr.len,aA]
  have eo:=(K1.trans K2).trans K3;have s1:=K1.size;have s2:=K2.size;have s3:=K3.size;have lt3:=B2.lt;rw[ae];simp only[go_sem,Za,Zb,hr.aq,lr];refine aF st.length [11,4,5,16,10] rfl rfl (by omega) (by rfl) (by rfl) (fun i g X=>∃w,Bl X b3 [w]/\aR X (Z0 #[w]) (cD st i)/\(∀q,aV w q->q≠b3/\q≠b2/\H.size<=q)/\af (fun q=>q=b3) H3 X) ⟨Z6 ZU 0 0,tR,?_,fun q hq=>hq.elim,af.refl _ _⟩ ?_ ?_
  ·have:cD st 0=fun _=>ZS:=by funext k;simp[cD]
   rw[this];exact aR.empty _ _ _
  ·rintro i g X hi gi gn ⟨w,BX,SX,ow,KX⟩;simp only[go_sem,Za,Zb,ae]at gi gn;obtain⟨sb,so,sc,e,pB⟩:=(hr.ai KX fun q hq e=>by have:=ho q hq;omega).iat (i:=i) hi;have hg:st.getD i 0=st[i]:=by rw[List.getD_eq_getElem?_getD,List.getElem?_eq_getElem hi];rfl
   by_cases h0:st[i]=0
   ·have d1:(st[i] !=0)=ZS:=by rw[h0];rfl
    simp only[go_sem,Za,Zb,gi,e,al,pB,d1];exact⟨by omega,w,BX,by rw[<-xc (by rw[hg];exact h0)];exact SX,ow,KX⟩
   ·have d1:(st[i] !=0)=ZT:=bne_iff_ne.2 h0;have l3:aL X (Z7 (ZV ⟨b3,0,ZU⟩)) 1=ZV #[w]:=BX.aL 1 rfl;simp only[go_sem,Za,Zb,gi,e,al,pB,d1,l3];refine⟨by omega,?_⟩;refine(hw _ _ (i:Int) X SX).mono ?_;rintro r X1 ⟨S1,K4,o4⟩;rw[IS (by omega) (by rw[hg];exact h0)]at S1;obtain⟨w',W',rfl,hV'⟩:=S1;have B31:=K4.bl BX id;have t3:=B31.bG (o:=0) (n:=1) (by simp);have a1:bM #[w']:=hV'.sl.one;have K5:af (fun q=>q=b3) X1 (aB X1 ⟨b3,0,ZU⟩ [w']):=(af.refl _ _).aB _ (.inl rfl);have B5:=B31.aB 0 [w'];have sX:=KX.size;have ow':∀q,aV w' q->q≠b3/\q≠b2/\H.size<=q:=fun q hq=>by
     rcases o4 q hq with h|h
     ·exact ow q h
     ·have:=BX.lt;have:=jv.lt;omega
    rw[ae];simp only[go_sem,Za,Zb,t3];refine⟨a1,?_⟩;rw[ae];simp only[go_sem,Za,Zb];exact⟨w',B5,⟨w',W',rfl,hV'.ai K5 fun q hq=>(ow' q hq).1⟩,ow',(KX.trans K4.any).trans K5⟩
  ·rintro g X -⟨w,BX,SX,ow,KX⟩;have l3:aL X (Z7 (ZV ⟨b3,0,ZU⟩)) 1=ZV #[w]:=BX.aL 1 rfl;have B2X:=KX.bl jv (by omega);have t2:=B2X.bG (o:=0) (n:=1) (by simp);obtain⟨w',W',e',hV'⟩:=SX
   cases e'
   have a1:bM #[w]:=hV'.sl.one;have K5:af (fun q=>q=b2) X (aB X ⟨b2,0,ZU⟩ [w]):=(af.refl _ _).aB _ (.inl rfl);have B5:Bl (aB X ⟨b2,0,ZU⟩ [w]) b2 [w]:=B2X.aB 0 [w];have l2:aL (aB X ⟨b2,0,ZU⟩ [w]) (Z7 (ZV ⟨b2,0,ZU⟩)) 1=ZV #[w]:=B5.aL 1 rfl;simp only[go_sem,Za,Zb,l3,t2];refine⟨a1,?_⟩;rw[ae];simp only[go_sem,Za,Zb,dQ,dR,l2];exact⟨⟨w,W',rfl,hV'.ai K5 fun q hq=>(ow q hq).2.1⟩,(eo.trans' KX fun q hq e=>by omega).trans' K5 fun q hq e=>by omega,fun q hq=>(ow q hq).2.2⟩
 refine⟨fun F el st rb H hR hl=>main _ st H (fun X K=>(hs.1 F el st rb X (hR.aj K) hl).mono fun r X' ⟨O,o,K'⟩=>⟨O.sl,fun q hq=>o q (O.aV hq),K'⟩) hl,fun H=>?_⟩;have:=main (Z7 ZU) [] H (fun X K=>(hs.2 X).mono fun r X' ⟨e,e'⟩=>by rw[e,e'];exact⟨aP.nil _ _ _,fun q hq=>hq.elim,af.refl _ _⟩) (by simp);have hd:cD [] 0=fun _=>ZS:=by funext k;simp[cD]
 rw[Zx,hd]at this;exact this.mono fun r X h=>⟨h.1,h.2.1⟩
def sN (P:Program) (V:aH) (k:FuncId):Prop:=(∀(F:cf) (el:List (Nat->Bool)) (st:List Int) (rb:Nat) (H:Hp),bh V H->cH H rb F el st->st.length<=1000->an P k #[Z7 (ZV ⟨rb,0,ZU⟩)] H fun r H'=>aP H' r (cU (cD st st.length))/\af (fun _=>False) H H')∧
 ∀H,bh V H->an P k #[Z7 ZU] H fun r H'=>aP H' r (cU fun _=>ZS)/\af (fun _=>False) H H'
def Sg (hk:ak P k (Co V) Cp 1) (hd:nP P (V.f 383)) (hli:nD P V (V.f 139)):sN P V k:=by
 have main:∀(x:ZR) (d:Nat->Bool) (H:Hp),bh V H->(an P (V.f 383) #[x] H fun r H'=>aR H' r d/\af (fun _=>False) H H')->an P k #[x] H fun r H'=>aP H' r (cU d)/\af (fun _=>False) H H':=fun x d H hT hc=>by
  refine ah hk (args:=[_]) (by simp) ?_;unfold Co Cp kA kB kC kc kg kY kZ;simp only[go_sem,Za,Zb];refine hc.mono ?_;rintro r H1 ⟨S,K⟩;rw[ae];simp only[go_sem,Za,Zb];refine(hli d r H1 (hT.ai K) S).mono ?_;rintro r H2 ⟨O,o,K2⟩;rw[ae];simp only[go_sem,Za,Zb];exact⟨O.sl,K.trans K2⟩
 exact⟨fun F el st rb H hT hR hl=>main _ _ H hT ((hd.1 F el st rb H hR hl).mono fun r X h=>⟨h.1,h.2.1⟩),fun H hT=>main _ _ H hT (hd.2 H)⟩
def qL (P:Program) (V:aH) (k:FuncId):Prop:=(∀(F:cf) (el:List (Nat->Bool)) (st:List Int) (rb:Nat) (H:Hp),bh V H->cH H rb F el st->nM F=ZT->st.length<=1000->an P k #[Z7 (ZV ⟨rb,0,ZU⟩)] H fun r H'=>aP H' r (iN (nW F.st.length F.be (cD st st.length)))/\af (fun _=>False) H H')∧
 ∀H,an P k #[Z7 ZU] H fun r H'=>r=Z6 ZU 0 0/\H'=H
def abQ (hk:ak P k (Cq V) Cr 1) (hd:nP P (V.f 383)) (hr:wM P V (V.f 314)):qL P V k:=by
 refine⟨fun F el st rb H hT hR hok hl=>?_,fun H=>?_⟩
 ·have hR0:=hR;obtain⟨s,b,d,a,m,ev,sv,vs,B,hF,he,hel,hst,hes,hsv⟩:=hR;have l5:aQ H ⟨rb,0,ZU⟩ 5=ZV #[s,b,d,a,m]:=by
   have:=B.aQ (o:=0) (n:=5) (by simp);simpa using this
  refine ah hk (args:=[_]) (by simp) ?_;unfold Cq Cr kA kC kV kW kX ka kg kY kZ;simp only[go_sem,Za,Zb];refine aZ (fun _=>False) ?_;simp only[go_sem,Za,Zb,l5,aC];refine(hd.1 F el st rb H hR0 hl).mono ?_;rintro r H1 ⟨S,K,-⟩;rw[aJ];refine⟨K,?_⟩;simp only[go_sem,Za,Zb];refine(hr F _ r _ H1 (hT.ai K) (hF.aj K) hok S).mono ?_;rintro r H2 ⟨O,o,K2⟩;rw[aJ];refine⟨K2,?_⟩;simp only[go_sem,Za,Zb];exact⟨O.sl,K.trans K2⟩
 ·refine ah hk (args:=[_]) (by simp) ?_;unfold Cq Cr kA kC kV kW kX ka kg kY kZ;simp only[go_sem,Za,Zb,ae]
end Go.Mg
