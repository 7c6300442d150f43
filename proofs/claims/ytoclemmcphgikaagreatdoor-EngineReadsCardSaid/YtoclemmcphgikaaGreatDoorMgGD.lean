/- Lemmas of ours. No conditions. -/
import Derived.Test.YtoclemmcphgikaaGreatDoorMgGA
open Nat renaming reduceEqDiff→Za,reduceAdd→Zb,reduceMul→Zc
set_option linter.all false
set_option maxRecDepth 100000
namespace Go.Mg
open Go Go.RowKit
def vC (ι:aG):S:=
 kY [kC 4 (.int .i64 0)] (.seq (kY [kA 9 0,kL 10 9,kA 11 1,kV 12 (.cm .neq .i64 (.t 10) (.t 11))] (.ite (.v 12) (kY [kC 4 (.int .i64 1)] .ret) .skip)) (.seq (kY [kV 13 (.mv (.v 0)),kO 14 13,kC 15 (.int .i64 0)] (.blk 0 (.loop (kY [kH 16 15 14] (.seq (.ite (.v 16) .skip (.exit 0)) (.seq (.blk 1 (kY [kK 17 1 13 15,kN 18 1 17,.e (.v 6) (.new (ι.t 128) #[kZ]),.e .no (.stn 1 (.v 6) (.t 18))] (kY [kM 20 1 6,.e (.t 21) (.call (ι.f 134) [.t 20]),kF 19 21,kQ 22 19 0,kQ 23 19 1,kB 7 22,kB 8 23] (kY [kA 24 8,kF 25 24,kS 26 25 true 7,kT 27 25 true (.cm .gtr .i64 (.t 26) (.c (.int .i64 256))),kJ 28 25 27,kF 29 28,kT 30 29 false (.m (.ldn 1 (.v 6))),.ge (.t 31) (.t 29) false (.call (ι.f 130) [.t 30,.c (.int .i64 0)]),kV 32 (.pick (.t 29) (.c (.bool true)) (.t 31))] (.ite (.v 32) (kY [kC 4 (.int .i64 2)] .ret) .skip))))) (.reg [ke 33 15,kB 15 33]))))))) (kY [kC 4 (.int .i64 0)] .ret)))
def vD:List RV:=[.t 4]
def nH (q:Nat->Bool):Prop:=∃u,q u=true/\(u=0\/256<u)
def py (P:Program) (k:FuncId):Prop:=∀(el:List (Nat->Bool)) (vs:List Value) (v:Value) (n:Int) (H:Hp),aO H v vs->vs.length=el.length->el.length<=1000->(∀i<vs.length,aQ H (.agg #[vs.getD i undef]) (el.getD i fun _=>false))→
 an P k #[v,.int .i64 n] H fun r H'=>∃e:Int,r=.int .i64 e/\af (fun _=>False) H H'/\(((el.length:Int)≠n/\e=1)\/((el.length:Int)=n/\((e=2/\∃i,i<el.length/\nH (el.getD i fun _=>false))\/(e=0/\∀i,i<el.length->¬nH (el.getD i fun _=>false)))))
theorem LB {P:Program} {ι:aG} {k:FuncId} (hk:al P k (vC ι) vD 2) (hg:gX P (ι.f 134)) (hh:eJ P (ι.f 130)):py P k:=by
 intro el vs v n H hv hl Cr hes;refine qI fun Q hQ=>?_;refine ah hk (args:=[_,_]) (by simp) ?_;unfold vC vD kA kB kF kC ke kH kK kJ kL kM kN kO kQ kS kT kV kY kZ;have lv:aU v=el.length:=by rw[hv.len,hl]
 by_cases h:(el.length:Int)=n
 case neg=>
  have d1:((el.length:Int)!=n)=true:=bne_iff_ne.2 h;simp-implicitDefEqProofs only[go_sem,↓reduceIte,Za,Zb,Zc,reduceCtorEq,hv.aq,lv,d1];rw[hQ];exact⟨1,rfl,af.refl _ _,.inl ⟨h,rfl⟩⟩
 have d1:((el.length:Int)!=n)=false:=by rw[h];simp
 simp-implicitDefEqProofs only[go_sem,↓reduceIte,Za,Zb,Zc,reduceCtorEq,hv.aq,lv,d1];refine aD el.length [16,6,7,8,32,4,15] rfl rfl (by omega) (by rfl) (by rfl) (fun i g X=>(∀j,j<i->¬nH (el.getD j fun _=>false))/\af (fun _=>False) H X) ⟨fun j h=>by omega,af.refl _ _⟩ ?_ ?_
 ·rintro i g X hi gi gn ⟨hp,KX⟩;simp-implicitDefEqProofs only[go_sem,↓reduceIte,Za,Zb,Zc,reduceCtorEq,ae]at gi gn;obtain⟨sb,so,sc,e,hld⟩:=(hv.ai KX (by simp)).ld1 (i:=i) (by omega);have hS:=(hes i (by omega)).aj KX;obtain⟨q,hq⟩:∃q,q=el.getD i fun _=>false:=⟨_,rfl⟩
  rw[<-hq]at hS;have o1:(vs.getD i undef).oneCell'=true:=by
   obtain⟨u,W,e',hV⟩:=hS
   cases e'
   exact aI hV.sl.aq
  generalize vs.getD i undef=u at*;have next:¬nH q->∀j,j<i+1->¬nH (el.getD j fun _=>false):=fun hb j hj=>by
   by_cases ej:j=i
   ·rw[ej,<-hq];exact hb
   ·exact hp j (by omega)
  have bad:nH q->∀X',af (fun _=>False) H X'->Q (.int .i64 2) X':=fun hb X' K=>by
   rw[hQ];exact⟨2,rfl,K,.inr ⟨h,.inl ⟨rfl,i,hi,by rw[<-hq];exact hb⟩⟩⟩
  simp-implicitDefEqProofs only[go_sem,↓reduceIte,Za,Zb,Zc,reduceCtorEq,gi,e,ak,aC,hl,hld,Nat.mul_one];refine⟨by omega,?_⟩;refine aN [u] (by rfl) rfl rfl (by simp[o1]) fun X1 b6 e6 z6 B6 K6=>?_;have S1:=hS.aj K6;simp-implicitDefEqProofs only[go_sem,↓reduceIte,Za,Zb,Zc,reduceCtorEq,B6.aM 1 rfl];refine(hg q _ X1 S1).mono ?_;rintro r X2 ⟨hr,K7⟩;have B62:=K7.bl B6 (by simp);have KH2:=(KX.trans K6).trans K7
  -- the question whether 0 is in
  have WR:bZ q 0=q 0:=jg (k:=0) (by omega);rcases hr with⟨rfl,hno⟩|⟨t,rfl,ht⟩
  ·rw[ae];simp-implicitDefEqProofs only[go_sem,↓reduceIte,Za,Zb,Zc,reduceCtorEq,B62.aM 1 rfl];refine(hh q _ 0 X2 (S1.aj K7)).mono ?_;rintro r X3 ⟨rfl,K8⟩;rw[ae,WR,hno 0];simp-implicitDefEqProofs only[go_sem,↓reduceIte,Za,Zb,Zc,reduceCtorEq];exact⟨next (fun⟨x,hx,_⟩=>by rw[hno x]at hx;cases hx),KH2.trans K8⟩
  ·by_cases abP:(t:Int)>256
   ·have d2:decide ((t:Int)>256)=true:=decide_eq_true abP;rw[ae];simp-implicitDefEqProofs only[go_sem,↓reduceIte,Za,Zb,Zc,reduceCtorEq,d2];exact bad ⟨t,ht.1,.inr (by omega)⟩ _ KH2
   ·have d2:decide ((t:Int)>256)=false:=decide_eq_false abP;rw[ae];simp-implicitDefEqProofs only[go_sem,↓reduceIte,Za,Zb,Zc,reduceCtorEq,d2,B62.aM 1 rfl];refine(hh q _ 0 X2 (S1.aj K7)).mono ?_;rintro r X3 ⟨rfl,K8⟩;rw[ae,WR]
    cases h0:q 0 with
    |true=>
     simp-implicitDefEqProofs only[go_sem,↓reduceIte,Za,Zb,Zc,reduceCtorEq];exact bad ⟨0,h0,.inl rfl⟩ _ (KH2.trans K8)
    |false=>
     simp-implicitDefEqProofs only[go_sem,↓reduceIte,Za,Zb,Zc,reduceCtorEq];refine⟨next fun⟨x,hx,hx'⟩=>?_,KH2.trans K8⟩;have:=ht.2 x hx;rcases hx' with rfl|hx'
     ·rw[h0]at hx;cases hx
     ·omega
 ·rintro g X -⟨hp,KX⟩;simp-implicitDefEqProofs only[go_sem,↓reduceIte,Za,Zb,Zc,reduceCtorEq,ae];rw[hQ];exact⟨0,rfl,KX,.inr ⟨h,.inr ⟨rfl,hp⟩⟩⟩
end Go.Mg
namespace Go.Mg
open Go Go.RowKit
def pz (ι:aG):S:=
 kY [kC 2 (kZ)] (.seq (kY [kA 3 0,kV 4 (.m (.eqn .ptr false (.t 3)))] (.ite (.v 4) (kY [kC 2 (kZ)] .ret) .skip)) (kY [kA 5 0,kU 6 (.nil (.t 5)),kU 7 (.fa 6 (.t 6)),kD 8 7,.e (.t 9) (.call (ι.f 159) [.t 8]),kB 2 9] .ret))
def pB:List RV:=[.t 2]
def Az (ι:aG):S:=
 kY [kC 6 (kZ)] (kY [kA 8 0,kU 9 (.nil (.t 8)),kU 10 (.fa 6 (.t 9)),kD 11 10,.e (.t 12) (.call (ι.f 159) [.t 11]),kB 7 12] (kY [kA 13 7,kA 14 1,kA 15 2,kI 16 1 13 14,.e .no (.st (.t 16) (.t 15))] (kY [kA 17 7,kB 6 17] .ret)))
def AA:List RV:=[.t 6]
def AB (ι:aG):S:=
 kY [kC 2 (.bool false)] (kY [kA 3 0,kU 4 (.m (.eqn .ptr true (.t 3))),kF 5 4,kS 6 5 true 0,kT 7 5 true (.nil (.t 6)),kT 8 5 true (.fa 6 (.t 7)),kT 9 5 true (.ld (.t 8)),.ge (.t 10) (.t 5) true (.call (ι.f 158) [.t 9,.c (.int .i64 0)]),kT 11 5 true (.not (.t 10)),kJ 12 5 11,kB 2 12] .ret)
def AD:List RV:=[.t 2]
def AE (ι:aG):S:=
 kY [kC 2 (kZ)] (.seq (kY [kA 5 0,kV 6 (.m (.eqn .ptr false (.t 5)))] (.ite (.v 6) (kY [kC 2 (kZ)] .ret) .skip)) (kY [kA 8 0,kA 9 0,kU 10 (.nil (.t 9)),kU 11 (.fa 6 (.t 10)),kD 12 11,.e (.t 13) (.call (ι.f 377) [.t 8,.t 12]),kF 7 13,kQ 14 7 0,kQ 15 7 1,kB 3 14,kF 4 15] (kY [kA 16 3,kB 2 16] .ret)))
def AG:List RV:=[.t 2]
theorem dI.D1 {H:Hp} {rb:Nat} {F:cf} {el:List (Nat->Bool)} {st:List Int} (h:dI H rb F el st):∃sv,cell H ⟨rb,6,none⟩=some sv/\aO H sv (iL st):=by
 obtain⟨s,b,d,a,m,ev,sv,vs,h1,h2,h3,h4,h5,h6,h7⟩:=h;exact⟨sv,by rw[h1.cell];rfl,h7⟩
def jX (P:Program) (k:FuncId):Prop:=(∀(F:cf) (el:List (Nat->Bool)) (st:List Int) (rb:Nat) (H:Hp),dI H rb F el st->st.length<=1000->an P k #[.pointer (some ⟨rb,0,none⟩)] H fun r H'=>bq H' r (iL st)/\(∀q,ax r q->H.size<=q)/\af (fun _=>False) H H')∧
 ∀H,an P k #[.pointer none] H fun r H'=>r=.slice none 0 0/\H'=H
variable {P:Program} {ι:aG} {k:FuncId}
theorem LC (hk:al P k (pz ι) pB 1) (hc:fO P (ι.f 159)):jX P k:=by
 refine⟨fun F el st rb H hR hl=>?_,fun H=>?_⟩
 ·obtain⟨sv,c6,hs⟩:=hR.D1;refine ah hk (args:=[_]) (by simp) ?_;unfold pz pB kA kB kC kD kU kV kY kZ;simp only[go_sem,Za,Zb,c6];refine(hc st sv H hs (by omega)).mono ?_;rintro r H1 ⟨O,o,K⟩;rw[ae];simp only[go_sem,Za,Zb];exact⟨O,o,K⟩
 ·refine ah hk (args:=[_]) (by simp) ?_;unfold pz pB kA kB kC kD kU kV kY kZ;simp only[go_sem,Za,Zb,ae]
def qT (P:Program) (k:FuncId):Prop:=∀(F:cf) (el:List (Nat->Bool)) (st:List Int) (rb i:Nat) (u:Int) (H:Hp),dI H rb F el st->st.length<=1000->i<st.length->an P k #[.pointer (some ⟨rb,0,none⟩),.int .i64 (i:Int),.int .i64 u] H fun r H'=>bq H' r (iL (st.set i u))/\(∀q,ax r q->H.size<=q)/\af (fun _=>False) H H'
theorem P5 (hk:al P k (Az ι) AA 3) (hc:fO P (ι.f 159)):qT P k:=by
 intro F el st rb i u H hR hl hi;obtain⟨sv,c6,hs⟩:=hR.D1;refine ah hk (args:=[_,_,_]) (by simp) ?_;unfold Az AA kA kB kC kD kI kU kY kZ;simp only[go_sem,Za,Zb,c6];refine(hc st sv H hs (by omega)).mono ?_;rintro r H1 ⟨O,o,K⟩;obtain⟨b,c,L,rfl,h1,h2,hB,h3,_⟩:=O.some (by intro e';have:=congrArg List.length e';rw[aA,List.length_nil]at this;omega);rw[aA]at h1 h3⊢;have hb:=o b rfl;have t:=hB.bu (o:=i) (by omega);have O':=yu hB (l:=iL st) (by rw[aA];exact h1) h2 (by rw[aA];exact h3) i (.int .i64 u) (by rw[aA];exact hi);rw[lh,aA]at O';have K':af (fun q=>q=b) H1 (az H1 ⟨b,i,none⟩ (.int .i64 u)):=(af.refl _ _).az _ (.inl rfl);rw[ae];simp only[go_sem,Za,Zb,ak,t];refine⟨by omega,?_⟩;rw[ae];simp only[go_sem,Za,Zb];refine⟨O',fun q hq=>?_,K.trans' K' fun q hq e=>by omega⟩;have tT:q=b:=hq;omega
def vE (P:Program) (k:FuncId):Prop:=(∀(F:cf) (el:List (Nat->Bool)) (st:List Int) (rb:Nat) (H:Hp),dI H rb F el st->st.length<=1000->an P k #[.pointer (some ⟨rb,0,none⟩)] H fun r H'=>(∃b:Bool,r=.bool b/\(b=true↔0∉st))/\H'=H)∧
 ∀H,an P k #[.pointer none] H fun r H'=>r=.bool false/\H'=H
theorem UB (hk:al P k (AB ι) AD 1) (hc:lI P (ι.f 158)):vE P k:=by
 refine⟨fun F el st rb H hR hl=>?_,fun H=>?_⟩
 ·obtain⟨sv,c6,hs⟩:=hR.D1;refine ah hk (args:=[_]) (by simp) ?_;unfold AB AD kA kB kF kC kJ kS kT kU kY;simp-implicitDefEqProofs only[go_sem,↓reduceIte,Za,Zb,Zc,reduceCtorEq,c6];refine(hc st sv 0 H hs (by omega)).mono ?_;rintro r H1 ⟨⟨b,rfl,hb⟩,rfl⟩;rw[ae];simp-implicitDefEqProofs only[go_sem,↓reduceIte,Za,Zb,Zc,reduceCtorEq];refine⟨!b,rfl,?_⟩
  cases b with
  |true=>simp[hb.1 rfl]
  |false=>simp;exact fun h=>by have:=hb.2 h;cases this
 ·refine ah hk (args:=[_]) (by simp) ?_;unfold AB AD kA kB kF kC kJ kS kT kU kY;simp-implicitDefEqProofs only[go_sem,↓reduceIte,Za,Zb,Zc,reduceCtorEq,ae]
def vF (P:Program) (ι:aG) (k:FuncId):Prop:=(∀(F:cf) (el:List (Nat->Bool)) (st:List Int) (rb:Nat) (H:Hp),bg ι H->dI H rb F el st->ff (bW F el)->Ay (bW F el) st->an P k #[.pointer (some ⟨rb,0,none⟩)] H fun r H'=>af (fun _=>False) H H'/\match en (bW F el) st with|none=>r=.slice none 0 0|some t=>aO H' r (iL t))∧
 ∀H,an P k #[.pointer none] H fun r H'=>r=.slice none 0 0/\H'=H
theorem UC (hk:al P k (AE ι) AG 1) (hc:gI P ι (ι.f 377)):vF P ι k:=by
 refine⟨fun F el st rb H hT hR hG hB=>?_,fun H=>?_⟩
 ·obtain⟨sv,c6,hs⟩:=hR.D1;refine ah hk (args:=[_]) (by simp) ?_;unfold AE AG kA kB kF kC kD kQ kU kV kY kZ;simp only[go_sem,Za,Zb,c6];refine(hc F el st st rb sv H hT hR hs hG hB).mono ?_;rintro r H1 ⟨y,rfl,K,hy⟩;rw[ae];simp only[go_sem,Za,Zb];exact⟨K,hy⟩
 ·refine ah hk (args:=[_]) (by simp) ?_;unfold AE AG kA kB kF kC kD kQ kU kV kY kZ;simp only[go_sem,Za,Zb,ae]
end Go.Mg
namespace Go.Mg
open Go Go.RowKit
def AH (ι:aG):S:=
 kY [.e (.v 2) (.new (ι.t 128) #[kZ])] (kY [kU 6 (.m (.bld #[kZ] [])),.e (.v 3) (.new (ι.t 128) #[kZ]),.e .no (.stn 1 (.v 3) (.t 6))] (.seq (kY [kA 7 0,.e (.v 8) (.call (ι.f 379) [.t 7]),kO 9 8,kC 10 (.int .i64 0)] (.blk 0 (.loop (kY [kH 11 10 9] (.seq (.ite (.v 11) .skip (.exit 0)) (.seq (.blk 1 (kY [kA 12 10,kK 13 1 8 10,kD 14 13,kB 4 12,kB 5 14] (kY [kA 15 5,kV 16 (.cm .neq .i64 (.t 15) (.c (.int .i64 0)))] (.ite (.v 16) (.reg [kM 17 1 3,kA 18 4,.e (.t 19) (.call (ι.f 131) [.t 17,.t 18]),.e .no (.stn 1 (.v 3) (.t 19))]) .skip)))) (.reg [ke 20 10,kB 10 20]))))))) (kY [kM 21 1 3,.e .no (.stn 1 (.v 2) (.t 21))] .ret)))
def AI:List RV:=[.cn 2 1]
def AJ (ι:aG):S:=
 kY [kC 2 (kZ)] (kY [kA 3 0,.e (.t 4) (.call (ι.f 383) [.t 3]),.e (.t 5) (.call (ι.f 139) [.t 4]),kB 2 5] .ret)
def AK:List RV:=[.t 2]
def AL (ι:aG):S:=
 kY [kC 2 (kZ)] (.seq (kY [kA 3 0,kV 4 (.m (.eqn .ptr false (.t 3)))] (.ite (.v 4) (kY [kC 2 (kZ)] .ret) .skip)) (.seq (.dr (kW 5 (.mv (.v 0)) (kW 6 (.nil (.t 5)) (kW 7 (.fa 0 (.t 6)) (kW 8 (.m (.ldn 5 (.t 7))) (kW 9 (.mv (.v 0)) (.wcons (.t 10) .none (.call (ι.f 383) [.t 9]) (.wcons (.t 11) .none (.call (ι.f 314) [.t 8,.t 10]) (kX 2 (.mv (.t 11)) .done) .wnil) .wnil))))))) .ret))
def AM:List RV:=[.t 2]
def cI (st:List Int) (i:Nat) (k:Nat):Bool:=decide (k<i)&&decide (st.getD k 0≠0)
variable {st:List Int} {i:Nat} {P:Program} {ι:aG} {k:FuncId}
theorem G7 (hi:i<=1000) (h:st.getD i 0≠0):kf (cI st i) (i:Int)=cI st (i+1):=by
 funext k
 unfold kf cI;rw[Bool.eq_iff_iff];simp only[Bool.or_eq_true,Bool.and_eq_true,decide_eq_true_eq]
 constructor
 ·rintro(⟨h1,h2⟩|⟨h1,h2⟩)
  ·exact⟨by omega,h2⟩
  ·have:k=i:=by omega
   subst this;exact⟨by omega,h⟩
 ·rintro⟨h1,h2⟩
  by_cases e:k=i
  ·exact .inr ⟨by omega,by omega⟩
  ·exact .inl ⟨by omega,h2⟩
theorem vG (h:st.getD i 0=0):cI st i=cI st (i+1):=by
 funext k
 unfold cI
 by_cases hk:k=i
 ·subst hk;rw[decide_eq_false (show¬(st.getD k 0≠0)from fun hn=>hn h)];simp
 ·have:decide (k<i)=decide (k<i+1):=by rw[decide_eq_decide];omega
  rw[this]
def mG (P:Program) (k:FuncId):Prop:=(∀(F:cf) (el:List (Nat->Bool)) (st:List Int) (rb:Nat) (H:Hp),dI H rb F el st->st.length<=1000->an P k #[.pointer (some ⟨rb,0,none⟩)] H fun r H'=>aQ H' r (cI st st.length)/\af (fun _=>False) H H'/\∀q,jc r q->H.size<=q)∧
 ∀H,an P k #[.pointer none] H fun r H'=>aQ H' r (fun _=>false)/\af (fun _=>False) H H'
theorem P6 (hk:al P k (AH ι) AI 1) (hs:jX P (ι.f 379)) (hw:mA P (ι.f 131)):mG P k:=by
 have main:∀(x:Value) (st:List Int) (H:Hp),(∀X,af (fun _=>False) H X->an P (ι.f 379) #[x] X fun r H'=>aO H' r (iL st)/\(∀q,aT r q->X.size<=q)/\af (fun _=>False) X H')->st.length<=1000->an P k #[x] H fun r H'=>aQ H' r (cI st st.length)/\af (fun _=>False) H H'/\∀q,jc r q->H.size<=q:=fun x st H hc hl=>by
  refine ah hk (args:=[_]) (by simp) ?_;unfold AH AI kA kB kC kD ke kH kK kM kO kU kV kY kZ;simp only[go_sem,Za,Zb];refine ay fun H1 b2 e1 z1 B1 K1=>?_;have bQ:Bl H1 b2 [.slice none 0 0]:=B1;simp only[go_sem,Za,Zb];refine aN [.slice none 0 0] (by rfl) rfl rfl rfl fun H2 b3 e2 z2 B2 K2=>?_;simp only[go_sem,Za,Zb];refine(hc H2 (K1.trans K2)).mono ?_;rintro r H3 ⟨hr,ho,K3⟩;have xy:=K3.bl B2 (by simp);have kj:=(K2.trans K3).bl bQ (by simp);have lr:aU r=st.length:=by rw[hr.len,aA]
  have gg:=(K1.trans K2).trans K3;have s1:=K1.size;have s2:=K2.size;have s3:=K3.size;have lt3:=B2.lt;rw[ae];simp only[go_sem,Za,Zb,hr.aq,lr];refine aD st.length [11,4,5,16,10] rfl rfl (by omega) (by rfl) (by rfl) (fun i g X=>∃w,Bl X b3 [w]/\aQ X (.agg #[w]) (cI st i)/\(∀q,aT w q->q≠b3/\q≠b2/\H.size<=q)/\af (fun q=>q=b3) H3 X) ⟨.slice none 0 0,xy,?_,fun q hq=>hq.elim,af.refl _ _⟩ ?_ ?_
  ·have:cI st 0=fun _=>false:=by funext k;simp[cI]
   rw[this];exact aQ.empty _ _ _
  ·rintro i g X hi gi gn ⟨w,BX,SX,ow,KX⟩;simp only[go_sem,Za,Zb,ae]at gi gn;obtain⟨sb,so,sc,e,pT⟩:=(hr.ai KX fun q hq e=>by have:=ho q hq;omega).iat (i:=i) hi;have hg:st.getD i 0=st[i]:=by rw[List.getD_eq_getElem?_getD,List.getElem?_eq_getElem hi];rfl
   by_cases h0:st[i]=0
   ·have d1:(st[i] !=0)=false:=by rw[h0];rfl
    simp only[go_sem,Za,Zb,gi,e,ak,pT,d1];exact⟨by omega,w,BX,by rw[<-vG (by rw[hg];exact h0)];exact SX,ow,KX⟩
   ·have d1:(st[i] !=0)=true:=bne_iff_ne.2 h0;have l3:aM X (.pointer (some ⟨b3,0,none⟩)) 1=some #[w]:=BX.aM 1 rfl;simp only[go_sem,Za,Zb,gi,e,ak,pT,d1,l3];refine⟨by omega,?_⟩;refine(hw _ _ (i:Int) X SX).mono ?_;rintro r X1 ⟨S1,K4,o4⟩;rw[G7 (by omega) (by rw[hg];exact h0)]at S1;obtain⟨w',W',rfl,Xq⟩:=S1;have Xg:=K4.bl BX (by simp);have t3:=Xg.bM (o:=0) (n:=1) (by simp);have a1:bO #[w']:=Xq.sl.one;have K5:af (fun q=>q=b3) X1 (aB X1 ⟨b3,0,none⟩ [w']):=(af.refl _ _).aB _ (.inl rfl);have B5:=Xg.aB 0 [w'];have sX:=KX.size;have ow':∀q,aT w' q->q≠b3/\q≠b2/\H.size<=q:=fun q hq=>by
     rcases o4 q hq with h|h
     ·exact ow q h
     ·have:=BX.lt;have:=kj.lt;omega
    rw[ae];simp only[go_sem,Za,Zb,t3];refine⟨a1,?_⟩;rw[ae];simp only[go_sem,Za,Zb];exact⟨w',B5,⟨w',W',rfl,Xq.ai K5 fun q hq=>(ow' q hq).1⟩,ow',(KX.trans K4.any).trans K5⟩
  ·rintro g X -⟨w,BX,SX,ow,KX⟩;have l3:aM X (.pointer (some ⟨b3,0,none⟩)) 1=some #[w]:=BX.aM 1 rfl;have B2X:=KX.bl kj (by omega);have t2:=B2X.bM (o:=0) (n:=1) (by simp);obtain⟨w',W',e',Xq⟩:=SX
   cases e'
   have a1:bO #[w]:=Xq.sl.one;have K5:af (fun q=>q=b2) X (aB X ⟨b2,0,none⟩ [w]):=(af.refl _ _).aB _ (.inl rfl);have B5:Bl (aB X ⟨b2,0,none⟩ [w]) b2 [w]:=B2X.aB 0 [w];have l2:aM (aB X ⟨b2,0,none⟩ [w]) (.pointer (some ⟨b2,0,none⟩)) 1=some #[w]:=B5.aM 1 rfl;simp only[go_sem,Za,Zb,l3,t2];refine⟨a1,?_⟩;rw[ae];simp only[go_sem,Za,Zb,dx,dy,l2];exact⟨⟨w,W',rfl,Xq.ai K5 fun q hq=>(ow q hq).2.1⟩,(gg.trans' KX fun q hq e=>by omega).trans' K5 fun q hq e=>by omega,fun q hq=>(ow q hq).2.2⟩
 refine⟨fun F el st rb H hR hl=>main _ st H (fun X K=>(hs.1 F el st rb X (hR.aj K) hl).mono fun r X' ⟨O,o,K'⟩=>⟨O.sl,fun q hq=>o q (O.aT hq),K'⟩) hl,fun H=>?_⟩;have:=main (.pointer none) [] H (fun X K=>(hs.2 X).mono fun r X' ⟨e,e'⟩=>by rw[e,e'];exact⟨aO.nil _ _ _,fun q hq=>hq.elim,af.refl _ _⟩) (by simp);have hd:cI [] 0=fun _=>false:=by funext k;simp[cI]
 rw[List.length_nil,hd]at this;exact this.mono fun r X h=>⟨h.1,h.2.1⟩
def qU (P:Program) (ι:aG) (k:FuncId):Prop:=(∀(F:cf) (el:List (Nat->Bool)) (st:List Int) (rb:Nat) (H:Hp),bg ι H->dI H rb F el st->st.length<=1000->an P k #[.pointer (some ⟨rb,0,none⟩)] H fun r H'=>aO H' r (cG (cI st st.length))/\af (fun _=>False) H H')∧
 ∀H,bg ι H->an P k #[.pointer none] H fun r H'=>aO H' r (cG fun _=>false)/\af (fun _=>False) H H'
theorem P7 (hk:al P k (AJ ι) AK 1) (hd:mG P (ι.f 383)) (hli:mB P ι (ι.f 139)):qU P ι k:=by
 have main:∀(x:Value) (d:Nat->Bool) (H:Hp),bg ι H->(an P (ι.f 383) #[x] H fun r H'=>aQ H' r d/\af (fun _=>False) H H')->an P k #[x] H fun r H'=>aO H' r (cG d)/\af (fun _=>False) H H':=fun x d H hT hc=>by
  refine ah hk (args:=[_]) (by simp) ?_;unfold AJ AK kA kB kC kY kZ;simp only[go_sem,Za,Zb];refine hc.mono ?_;rintro r H1 ⟨S,K⟩;rw[ae];simp only[go_sem,Za,Zb];refine(hli d r H1 (hT.ai K) S).mono ?_;rintro r H2 ⟨O,o,K2⟩;rw[ae];simp only[go_sem,Za,Zb];exact⟨O.sl,K.trans K2⟩
 exact⟨fun F el st rb H hT hR hl=>main _ _ H hT ((hd.1 F el st rb H hR hl).mono fun r X h=>⟨h.1,h.2.1⟩),fun H hT=>main _ _ H hT (hd.2 H)⟩
def pC (P:Program) (ι:aG) (k:FuncId):Prop:=(∀(F:cf) (el:List (Nat->Bool)) (st:List Int) (rb:Nat) (H:Hp),bg ι H->dI H rb F el st->nD F=true->st.length<=1000->an P k #[.pointer (some ⟨rb,0,none⟩)] H fun r H'=>aO H' r (iN (uU F.st.length F.be (cI st st.length)))/\af (fun _=>False) H H')∧
 ∀H,an P k #[.pointer none] H fun r H'=>r=.slice none 0 0/\H'=H
theorem UD (hk:al P k (AL ι) AM 1) (hd:mG P (ι.f 383)) (hr:vm P ι (ι.f 314)):pC P ι k:=by
 refine⟨fun F el st rb H hT hR hok hl=>?_,fun H=>?_⟩
 ·have LD:=hR;obtain⟨s,b,d,a,m,ev,sv,vs,B,hF,he,hel,hst,hes,hsv⟩:=hR;have l5:aR H ⟨rb,0,none⟩ 5=some #[s,b,d,a,m]:=by
   have:=B.aR (o:=0) (n:=5) (by simp);simpa using this
  refine ah hk (args:=[_]) (by simp) ?_;unfold AL AM kA kC kV kW kX kY kZ;simp only[go_sem,Za,Zb];refine bo (fun _=>False) ?_;simp only[go_sem,Za,Zb,l5,aC];refine(hd.1 F el st rb H LD hl).mono ?_;rintro r H1 ⟨S,K,-⟩;rw[aJ];refine⟨K,?_⟩;simp only[go_sem,Za,Zb];refine(hr F _ r _ H1 (hT.ai K) (hF.aj K) hok S).mono ?_;rintro r H2 ⟨O,o,K2⟩;rw[aJ];refine⟨K2,?_⟩;simp only[go_sem,Za,Zb];exact⟨O.sl,K.trans K2⟩
 ·refine ah hk (args:=[_]) (by simp) ?_;unfold AL AM kA kC kV kW kX kY kZ;simp only[go_sem,Za,Zb,ae]
end Go.Mg
