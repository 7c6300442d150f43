/- Lemmas of ours. No conditions. -/
import Derived.Test.YteeemadonfcliaaGreatDoorMgGA
open Nat renaming reduceEqDiff→Za,reduceAdd→Zb,reduceMul→Zc,reduceLeDiff→Zd,reduceLT→Ze
open Int renaming reduceBEq→Zf,reduceBNe→Zg,reduceLE→Zh,reduceLT→Zi
set_option linter.all false
set_option maxRecDepth 100000
namespace Go.Mg
open Go Go.RowKit
def qe (ι:aJ):S:=
 kY [kC 4 (.int .i64 0)] (.seq (kY [kA 9 0,kL 10 9,kA 11 1,kV 12 (.cm .neq .i64 (.t 10) (.t 11))] (.ite (.v 12) (kY [kC 4 (.int .i64 1)] .ret) .skip)) (.seq (kY [kV 13 (.mv (.v 0)),kO 14 13,kC 15 (.int .i64 0)] (.blk 0 (.loop (kY [kH 16 15 14] (.seq (.ite (.v 16) .skip (.exit 0)) (.seq (.blk 1 (kY [kK 17 1 13 15,kN 18 1 17,kd 6 (.new (ι.t 128) #[kZ]),kf (.stn 1 (.v 6) (.t 18))] (kY [kM 20 1 6,kc 21 (kg (ι.f 134) [.t 20]),kF 19 21,kQ 22 19 0,kQ 23 19 1,kB 7 22,kB 8 23] (kY [kA 24 8,kF 25 24,kS 26 25 true 7,kT 27 25 true (.cm .gtr .i64 (.t 26) (.c (.int .i64 256))),kJ 28 25 27,kF 29 28,kT 30 29 false (.m (.ldn 1 (.v 6))),.ge (.t 31) (.t 29) false (kg (ι.f 130) [.t 30,.c (.int .i64 0)]),kV 32 (.pick (.t 29) (.c (.bool true)) (.t 31))] (.ite (.v 32) (kY [kC 4 (.int .i64 2)] .ret) .skip))))) (.reg [ke 33 15,kB 15 33]))))))) (kY [kC 4 (.int .i64 0)] .ret)))
def qf:List RV:=[.t 4]
def qg (q:Nat->Bool):Prop:=∃u,q u=true/\(u=0\/256<u)
def qh (P:Program) (k:FuncId):Prop:=∀(el:List (Nat->Bool)) (vs:List Value) (v:Value) (n:Int) (H:Hp),aG H v vs->vs.length=el.length->el.length<=1000->(∀i<vs.length,aS H (.agg #[vs.getD i undef]) (el.getD i fun _=>false))→
 an P k #[v,.int .i64 n] H fun r H'=>∃e:Int,r=.int .i64 e/\af (fun _=>False) H H'/\(((el.length:Int)≠n/\e=1)\/((el.length:Int)=n/\((e=2/\∃i,i<el.length/\qg (el.getD i fun _=>false))\/(e=0/\∀i,i<el.length->¬qg (el.getD i fun _=>false)))))
theorem Dz {P:Program} {ι:aJ} {k:FuncId} (hk:aq P k (qe ι) qf 2) (hg:ib P (ι.f 134)) (hh:fP P (ι.f 130)):qh P k:=by
 intro el vs v n H hv hl vu hes;refine qI fun Q hQ=>?_;refine ah hk (args:=[_,_]) (by simp) ?_;unfold qe qf kA kB kF kC ke kH kK kJ kL kM kN kO kQ kS kT kV kc kd kf kg kY kZ;have lv:aP v=el.length:=by rw[hv.len,hl]
 by_cases h:(el.length:Int)=n
 case neg=>
  have d1:((el.length:Int)!=n)=true:=bne_iff_ne.2 h;simp-implicitDefEqProofs only[go_sem,zS,↓reduceIte,Za,Zb,Zc,reduceCtorEq,zU,zV,Zf,Zg,Zh,Zi,Zd,Ze,zF,hv.ax,lv,d1];rw[hQ];exact⟨1,rfl,af.refl _ _,.inl ⟨h,rfl⟩⟩
 have d1:((el.length:Int)!=n)=false:=by rw[h];simp
 simp-implicitDefEqProofs only[go_sem,zS,↓reduceIte,Za,Zb,Zc,reduceCtorEq,zU,zV,Zf,Zg,Zh,Zi,Zd,Ze,zF,hv.ax,lv,d1];refine aO el.length [16,6,7,8,32,4,15] rfl rfl (by omega) (by simp-implicitDefEqProofs only[go_sem,zS,↓reduceIte,Za,Zb,Zc,reduceCtorEq,ae,zU,zV,Zf,Zg,Zh,Zi,Zd,Ze]) (by simp-implicitDefEqProofs only[go_sem,zS,↓reduceIte,Za,Zb,Zc,reduceCtorEq,ae,zU,zV,Zf,Zg,Zh,Zi,Zd,Ze]) (fun i g X=>(∀j,j<i->¬qg (el.getD j fun _=>false))/\af (fun _=>False) H X) ⟨fun j h=>by omega,af.refl _ _⟩ ?_ ?_
 ·rintro i g X hi gi gn ⟨hp,KX⟩;simp-implicitDefEqProofs only[go_sem,zS,↓reduceIte,Za,Zb,Zc,reduceCtorEq,ae,zU,zV,Zf,Zg,Zh,Zi,Zd,Ze]at gi gn;obtain⟨sb,so,sc,e,hld⟩:=(hv.ag KX (by simp)).ld1 (i:=i) (by omega);have hS:=(hes i (by omega)).aj KX;obtain⟨q,hq⟩:∃q,q=el.getD i fun _=>false:=⟨_,rfl⟩
  rw[<-hq]at hS;have o1:(vs.getD i undef).oneCell'=true:=by
   obtain⟨u,W,e',hV⟩:=hS
   cases e'
   exact aM hV.sl.ax
  generalize vs.getD i undef=u at*;have next:¬qg q->∀j,j<i+1->¬qg (el.getD j fun _=>false):=fun hb j hj=>by
   by_cases ej:j=i
   ·rw[ej,<-hq];exact hb
   ·exact hp j (by omega)
  have bad:qg q->∀X',af (fun _=>False) H X'->Q (.int .i64 2) X':=fun hb X' K=>by
   rw[hQ];exact⟨2,rfl,K,.inr ⟨h,.inl ⟨rfl,i,hi,by rw[<-hq];exact hb⟩⟩⟩
  simp-implicitDefEqProofs only[go_sem,zS,↓reduceIte,Za,Zb,Zc,reduceCtorEq,zU,zV,Zf,Zg,Zh,Zi,Zd,Ze,zF,gi,e,ai,aB,hl,hld,Nat.mul_one];refine⟨by omega,?_⟩;refine bB [u] (by simp-implicitDefEqProofs only[go_sem,zS,↓reduceIte,Za,Zb,Zc,reduceCtorEq,ae,zU,zV,Zf,Zg,Zh,Zi,Zd,Ze]) rfl rfl (by simp[o1]) fun X1 b6 e6 z6 B6 K6=>?_;have S1:=hS.aj K6;simp-implicitDefEqProofs only[go_sem,zS,↓reduceIte,Za,Zb,Zc,reduceCtorEq,zU,zV,Zf,Zg,Zh,Zi,Zd,Ze,zF,B6.aI 1 rfl];refine(hg q _ X1 S1).mono ?_;rintro r X2 ⟨hr,K7⟩;have B62:=K7.bl B6 (by simp);have PO:=(KX.trans K6).trans K7
  -- the question whether 0 is in
  have UP:cX q 0=q 0:=lE (k:=0) (by omega);rcases hr with⟨rfl,hno⟩|⟨t,rfl,ht⟩
  ·rw[ae];simp-implicitDefEqProofs only[go_sem,zS,↓reduceIte,Za,Zb,Zc,reduceCtorEq,zU,zV,Zf,Zg,Zh,Zi,Zd,Ze,zF,B62.aI 1 rfl];refine(hh q _ 0 X2 (S1.aj K7)).mono ?_;rintro r X3 ⟨rfl,K8⟩;rw[ae,UP,hno 0];simp-implicitDefEqProofs only[go_sem,zS,↓reduceIte,Za,Zb,Zc,reduceCtorEq,zU,zV,Zf,Zg,Zh,Zi,Zd,Ze,zF];exact⟨next (fun⟨x,hx,_⟩=>by rw[hno x]at hx;cases hx),PO.trans K8⟩
  ·by_cases DA:(t:Int)>256
   ·have d2:decide ((t:Int)>256)=true:=decide_eq_true DA;rw[ae];simp-implicitDefEqProofs only[go_sem,zS,↓reduceIte,Za,Zb,Zc,reduceCtorEq,zU,zV,Zf,Zg,Zh,Zi,Zd,Ze,zF,d2];exact bad ⟨t,ht.1,.inr (by omega)⟩ _ PO
   ·have d2:decide ((t:Int)>256)=false:=decide_eq_false DA;rw[ae];simp-implicitDefEqProofs only[go_sem,zS,↓reduceIte,Za,Zb,Zc,reduceCtorEq,zU,zV,Zf,Zg,Zh,Zi,Zd,Ze,zF,d2,B62.aI 1 rfl];refine(hh q _ 0 X2 (S1.aj K7)).mono ?_;rintro r X3 ⟨rfl,K8⟩;rw[ae,UP]
    cases h0:q 0 with
    |true=>
     simp-implicitDefEqProofs only[go_sem,zS,↓reduceIte,Za,Zb,Zc,reduceCtorEq,zU,zV,Zf,Zg,Zh,Zi,Zd,Ze,zF];exact bad ⟨0,h0,.inl rfl⟩ _ (PO.trans K8)
    |false=>
     simp-implicitDefEqProofs only[go_sem,zS,↓reduceIte,Za,Zb,Zc,reduceCtorEq,zU,zV,Zf,Zg,Zh,Zi,Zd,Ze,zF];refine⟨next fun⟨x,hx,hx'⟩=>?_,PO.trans K8⟩;have:=ht.2 x hx;rcases hx' with rfl|hx'
     ·rw[h0]at hx;cases hx
     ·omega
 ·rintro g X -⟨hp,KX⟩;simp-implicitDefEqProofs only[go_sem,zS,↓reduceIte,Za,Zb,Zc,reduceCtorEq,ae,zU,zV,Zf,Zg,Zh,Zi,Zd,Ze,zF];rw[hQ];exact⟨0,rfl,KX,.inr ⟨h,.inr ⟨rfl,hp⟩⟩⟩
end Go.Mg
namespace Go.Mg
open Go Go.RowKit
def u0 (ι:aJ):S:=
 kY [kC 2 (kZ)] (.seq (kY [kA 5 0,kV 6 (.m (.eqn .ptr false (.t 5)))] (.ite (.v 6) (kY [kC 2 (kZ)] .ret) .skip)) (kY [kA 8 0,kA 9 0,kU 10 (.nil (.t 9)),kU 11 (.fa 6 (.t 10)),kD 12 11,kc 13 (kg (ι.f 377) [.t 8,.t 12]),kF 7 13,kQ 14 7 0,kQ 15 7 1,kB 3 14,kF 4 15] (kY [kA 16 3,kB 2 16] .ret)))
def u2:List RV:=[.t 2]
theorem lK.MW {H:Hp} {rb:Nat} {F:jn} {el:List (Nat->Bool)} {st:List Int} (h:lK H rb F el st):∃sv,cell H ⟨rb,6,none⟩=some sv/\aG H sv (iL st):=by
 obtain⟨s,b,d,a,m,ev,sv,vs,h1,h2,h3,h4,h5,h6,h7⟩:=h;exact⟨sv,by rw[h1.cell];rfl,h7⟩
def qi (P:Program) (ι:aJ) (k:FuncId):Prop:=(∀(F:jn) (el:List (Nat->Bool)) (st:List Int) (rb:Nat) (H:Hp),br ι H->lK H rb F el st->cD (bV F el)->xq (bV F el) st->an P k #[.pointer (some ⟨rb,0,none⟩)] H fun r H'=>af (fun _=>False) H H'/\match dd (bV F el) st with|none=>r=.slice none 0 0|some t=>aG H' r (iL t))∧
 ∀H,an P k #[.pointer none] H fun r H'=>r=.slice none 0 0/\H'=H
theorem KL {P:Program} {ι:aJ} {k:FuncId} (hk:aq P k (u0 ι) u2 1) (hc:js P ι (ι.f 377)):qi P ι k:=by
 refine⟨fun F el st rb H hT hR hG hB=>?_,fun H=>?_⟩
 ·obtain⟨sv,c6,hs⟩:=hR.MW;refine ah hk (args:=[_]) (by simp) ?_;unfold u0 u2 kA kB kF kC kD kQ kU kV kc kg kY kZ;simp-implicitDefEqProofs only[go_sem,zS,↓reduceIte,Za,Zb,Zc,reduceCtorEq,zU,zV,Zf,Zg,Zh,Zi,Zd,Ze,zF,c6];refine(hc F el st st rb sv H hT hR hs hG hB).mono ?_;rintro r H1 ⟨y,rfl,K,hy⟩;rw[ae];simp-implicitDefEqProofs only[go_sem,zS,↓reduceIte,Za,Zb,Zc,reduceCtorEq,zU,zV,Zf,Zg,Zh,Zi,Zd,Ze,zF];exact⟨K,hy⟩
 ·refine ah hk (args:=[_]) (by simp) ?_;unfold u0 u2 kA kB kF kC kD kQ kU kV kc kg kY kZ;simp-implicitDefEqProofs only[go_sem,zS,↓reduceIte,Za,Zb,Zc,reduceCtorEq,ae,zU,zV,Zf,Zg,Zh,Zi,Zd,Ze,zF]
end Go.Mg
namespace Go.Mg
open Go Go.RowKit
end Go.Mg
