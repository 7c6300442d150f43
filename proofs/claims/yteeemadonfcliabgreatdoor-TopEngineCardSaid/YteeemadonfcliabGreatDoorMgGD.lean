/- Lemmas of ours. No conditions. -/
import Derived.Test.YteeemadonfcliabGreatDoorMgGA
open Nat renaming reduceEqDiff→Za,reduceAdd→Zb,reduceMul→Zc,reduceLeDiff→Zd,reduceLT→Ze
open Int renaming reduceBEq→Zf,reduceBNe→Zg,reduceLE→Zh,reduceLT→Zi
set_option linter.all false
set_option maxRecDepth 100000
namespace Go.Mg
open Go Go.RowKit
def sP (ι:aC):S:=
 kY [kC 4 (.int .i64 0)] (.seq (kY [kA 9 0,kL 10 9,kA 11 1,kV 12 (.cm .neq .i64 (.t 10) (.t 11))] (.ite (.v 12) (kY [kC 4 (.int .i64 1)] .ret) .skip)) (.seq (kY [kV 13 (.mv (.v 0)),kO 14 13,kC 15 (.int .i64 0)] (.blk 0 (.loop (kY [kH 16 15 14] (.seq (.ite (.v 16) .skip (.exit 0)) (.seq (.blk 1 (kY [kK 17 1 13 15,kN 18 1 17,kd 6 (.new (ι.t 128) #[kZ]),kf (.stn 1 (.v 6) (.t 18))] (kY [kM 20 1 6,kc 21 (kg (ι.f 134) [.t 20]),kF 19 21,kQ 22 19 0,kQ 23 19 1,kB 7 22,kB 8 23] (kY [kA 24 8,kF 25 24,kS 26 25 true 7,kT 27 25 true (.cm .gtr .i64 (.t 26) (.c (.int .i64 256))),kJ 28 25 27,kF 29 28,kT 30 29 false (.m (.ldn 1 (.v 6))),.ge (.t 31) (.t 29) false (kg (ι.f 130) [.t 30,.c (.int .i64 0)]),kV 32 (.pick (.t 29) (.c (.bool true)) (.t 31))] (.ite (.v 32) (kY [kC 4 (.int .i64 2)] .ret) .skip))))) (.reg [ke 33 15,kB 15 33]))))))) (kY [kC 4 (.int .i64 0)] .ret)))
def sQ:List RV:=[.t 4]
def sR (q:Nat->Bool):Prop:=∃u,q u=true/\(u=0\/256<u)
def sS (P:Program) (k:FuncId):Prop:=∀(el:List (Nat->Bool)) (vs:List Value) (v:Value) (n:Int) (H:Hp),aM H v vs->vs.length=el.length->el.length<=1000->(∀i<vs.length,aQ H (.agg #[vs.getD i undef]) (el.getD i fun _=>false))→
 ak P k #[v,.int .i64 n] H fun r H'=>∃e:Int,r=.int .i64 e/\af (fun _=>False) H H'/\(((el.length:Int)≠n/\e=1)\/((el.length:Int)=n/\((e=2/\∃i,i<el.length/\sR (el.getD i fun _=>false))\/(e=0/\∀i,i<el.length->¬sR (el.getD i fun _=>false)))))
theorem GB {P:Program} {ι:aC} {k:FuncId} (hk:an P k (sP ι) sQ 2) (hg:lK P (ι.f 134)) (hh:dT P (ι.f 130)):sS P k:=by
 intro el vs v n H hv hl uL hes;refine qI fun Q hQ=>?_;refine ah hk (args:=[_,_]) (by simp) ?_;unfold sP sQ kA kB kF kC ke kH kK kJ kL kM kN kO kQ kS kT kV kc kd kf kg kY kZ;have lv:aO v=el.length:=by rw[hv.len,hl]
 by_cases h:(el.length:Int)=n
 case neg=>
  have d1:((el.length:Int)!=n)=true:=bne_iff_ne.2 h;simp-implicitDefEqProofs only[go_sem,zS,↓reduceIte,Za,Zb,Zc,reduceCtorEq,zU,zV,Zf,Zg,Zh,Zi,Zd,Ze,zF,hv.aq,lv,d1];rw[hQ];exact⟨1,rfl,af.refl _ _,.inl ⟨h,rfl⟩⟩
 have d1:((el.length:Int)!=n)=false:=by rw[h];simp
 simp-implicitDefEqProofs only[go_sem,zS,↓reduceIte,Za,Zb,Zc,reduceCtorEq,zU,zV,Zf,Zg,Zh,Zi,Zd,Ze,zF,hv.aq,lv,d1];refine aL el.length [16,6,7,8,32,4,15] rfl rfl (by omega) (by simp-implicitDefEqProofs only[go_sem,zS,↓reduceIte,Za,Zb,Zc,reduceCtorEq,ae,zU,zV,Zf,Zg,Zh,Zi,Zd,Ze]) (by simp-implicitDefEqProofs only[go_sem,zS,↓reduceIte,Za,Zb,Zc,reduceCtorEq,ae,zU,zV,Zf,Zg,Zh,Zi,Zd,Ze]) (fun i g X=>(∀j,j<i->¬sR (el.getD j fun _=>false))/\af (fun _=>False) H X) ⟨fun j h=>by omega,af.refl _ _⟩ ?_ ?_
 ·rintro i g X hi gi gn ⟨hp,KX⟩;simp-implicitDefEqProofs only[go_sem,zS,↓reduceIte,Za,Zb,Zc,reduceCtorEq,ae,zU,zV,Zf,Zg,Zh,Zi,Zd,Ze]at gi gn;obtain⟨sb,so,sc,e,hld⟩:=(hv.ag KX (by simp)).ld1 (i:=i) (by omega);have hS:=(hes i (by omega)).ai KX;obtain⟨q,hq⟩:∃q,q=el.getD i fun _=>false:=⟨_,rfl⟩
  rw[<-hq]at hS;have o1:(vs.getD i undef).oneCell'=true:=by
   obtain⟨u,W,e',hV⟩:=hS
   cases e'
   exact aI hV.sl.aq
  generalize vs.getD i undef=u at*;have next:¬sR q->∀j,j<i+1->¬sR (el.getD j fun _=>false):=fun hb j hj=>by
   by_cases ej:j=i
   ·rw[ej,<-hq];exact hb
   ·exact hp j (by omega)
  have bad:sR q->∀X',af (fun _=>False) H X'->Q (.int .i64 2) X':=fun hb X' K=>by
   rw[hQ];exact⟨2,rfl,K,.inr ⟨h,.inl ⟨rfl,i,hi,by rw[<-hq];exact hb⟩⟩⟩
  simp-implicitDefEqProofs only[go_sem,zS,↓reduceIte,Za,Zb,Zc,reduceCtorEq,zU,zV,Zf,Zg,Zh,Zi,Zd,Ze,zF,gi,e,aj,aB,hl,hld,Nat.mul_one];refine⟨by omega,?_⟩;refine bf [u] (by simp-implicitDefEqProofs only[go_sem,zS,↓reduceIte,Za,Zb,Zc,reduceCtorEq,ae,zU,zV,Zf,Zg,Zh,Zi,Zd,Ze]) rfl rfl (by simp[o1]) fun X1 b6 e6 z6 B6 K6=>?_;have S1:=hS.ai K6;simp-implicitDefEqProofs only[go_sem,zS,↓reduceIte,Za,Zb,Zc,reduceCtorEq,zU,zV,Zf,Zg,Zh,Zi,Zd,Ze,zF,B6.aD 1 rfl];refine(hg q _ X1 S1).mono ?_;rintro r X2 ⟨hr,K7⟩;have Xw:=K7.bl B6 (by simp);have Po:=(KX.trans K6).trans K7
  -- the question whether 0 is in
  have YU:bS q 0=q 0:=fZ (k:=0) (by omega);rcases hr with⟨rfl,hno⟩|⟨t,rfl,ht⟩
  ·rw[ae];simp-implicitDefEqProofs only[go_sem,zS,↓reduceIte,Za,Zb,Zc,reduceCtorEq,zU,zV,Zf,Zg,Zh,Zi,Zd,Ze,zF,Xw.aD 1 rfl];refine(hh q _ 0 X2 (S1.ai K7)).mono ?_;rintro r X3 ⟨rfl,K8⟩;rw[ae,YU,hno 0];simp-implicitDefEqProofs only[go_sem,zS,↓reduceIte,Za,Zb,Zc,reduceCtorEq,zU,zV,Zf,Zg,Zh,Zi,Zd,Ze,zF];exact⟨next (fun⟨x,hx,_⟩=>by rw[hno x]at hx;cases hx),Po.trans K8⟩
  ·by_cases Xx:(t:Int)>256
   ·have d2:decide ((t:Int)>256)=true:=decide_eq_true Xx;rw[ae];simp-implicitDefEqProofs only[go_sem,zS,↓reduceIte,Za,Zb,Zc,reduceCtorEq,zU,zV,Zf,Zg,Zh,Zi,Zd,Ze,zF,d2];exact bad ⟨t,ht.1,.inr (by omega)⟩ _ Po
   ·have d2:decide ((t:Int)>256)=false:=decide_eq_false Xx;rw[ae];simp-implicitDefEqProofs only[go_sem,zS,↓reduceIte,Za,Zb,Zc,reduceCtorEq,zU,zV,Zf,Zg,Zh,Zi,Zd,Ze,zF,d2,Xw.aD 1 rfl];refine(hh q _ 0 X2 (S1.ai K7)).mono ?_;rintro r X3 ⟨rfl,K8⟩;rw[ae,YU]
    cases h0:q 0 with
    |true=>
     simp-implicitDefEqProofs only[go_sem,zS,↓reduceIte,Za,Zb,Zc,reduceCtorEq,zU,zV,Zf,Zg,Zh,Zi,Zd,Ze,zF];exact bad ⟨0,h0,.inl rfl⟩ _ (Po.trans K8)
    |false=>
     simp-implicitDefEqProofs only[go_sem,zS,↓reduceIte,Za,Zb,Zc,reduceCtorEq,zU,zV,Zf,Zg,Zh,Zi,Zd,Ze,zF];refine⟨next fun⟨x,hx,hx'⟩=>?_,Po.trans K8⟩;have:=ht.2 x hx;rcases hx' with rfl|hx'
     ·rw[h0]at hx;cases hx
     ·omega
 ·rintro g X -⟨hp,KX⟩;simp-implicitDefEqProofs only[go_sem,zS,↓reduceIte,Za,Zb,Zc,reduceCtorEq,ae,zU,zV,Zf,Zg,Zh,Zi,Zd,Ze,zF];rw[hQ];exact⟨0,rfl,KX,.inr ⟨h,.inr ⟨rfl,hp⟩⟩⟩
end Go.Mg
namespace Go.Mg
open Go Go.RowKit
def nt (ι:aC):S:=
 kY [kC 2 (kZ)] (.seq (kY [kA 3 0,kV 4 (.m (.eqn .ptr false (.t 3)))] (.ite (.v 4) (kY [kC 2 (kZ)] .ret) .skip)) (kY [kA 5 0,kU 6 (.nil (.t 5)),kU 7 (.fa 6 (.t 6)),kD 8 7,kc 9 (kg (ι.f 159) [.t 8]),kB 2 9] .ret))
def nu:List RV:=[.t 2]
def xx (ι:aC):S:=
 kY [kC 6 (kZ)] (kY [kA 8 0,kU 9 (.nil (.t 8)),kU 10 (.fa 6 (.t 9)),kD 11 10,kc 12 (kg (ι.f 159) [.t 11]),kB 7 12] (kY [kA 13 7,kA 14 1,kA 15 2,kI 16 1 13 14,kf (.st (.t 16) (.t 15))] (kY [kA 17 7,kB 6 17] .ret)))
def xy:List RV:=[.t 6]
def xz (ι:aC):S:=
 kY [kC 2 (kZ)] (.seq (kY [kA 5 0,kV 6 (.m (.eqn .ptr false (.t 5)))] (.ite (.v 6) (kY [kC 2 (kZ)] .ret) .skip)) (kY [kA 8 0,kA 9 0,kU 10 (.nil (.t 9)),kU 11 (.fa 6 (.t 10)),kD 12 11,kc 13 (kg (ι.f 377) [.t 8,.t 12]),kF 7 13,kQ 14 7 0,kQ 15 7 1,kB 3 14,kF 4 15] (kY [kA 16 3,kB 2 16] .ret)))
def xA:List RV:=[.t 2]
theorem fJ.Ai {H:Hp} {rb:Nat} {F:dz} {el:List (Nat->Bool)} {st:List Int} (h:fJ H rb F el st):∃sv,cell H ⟨rb,6,none⟩=some sv/\aM H sv (iL st):=by
 obtain⟨s,b,d,a,m,ev,sv,vs,h1,h2,h3,h4,h5,h6,h7⟩:=h;exact⟨sv,by rw[h1.cell];rfl,h7⟩
def gv (P:Program) (k:FuncId):Prop:=(∀(F:dz) (el:List (Nat->Bool)) (st:List Int) (rb:Nat) (H:Hp),fJ H rb F el st->st.length<=1000->ak P k #[.pointer (some ⟨rb,0,none⟩)] H fun r H'=>bY H' r (iL st)/\(∀q,ay r q->H.size<=q)/\af (fun _=>False) H H')∧
 ∀H,ak P k #[.pointer none] H fun r H'=>r=.slice none 0 0/\H'=H
variable {P:Program} {ι:aC} {k:FuncId}
theorem GC (hk:an P k (nt ι) nu 1) (hc:cD P (ι.f 159)):gv P k:=by
 refine⟨fun F el st rb H hR hl=>?_,fun H=>?_⟩
 ·obtain⟨sv,c6,hs⟩:=hR.Ai;refine ah hk (args:=[_]) (by simp) ?_;unfold nt nu kA kB kC kD kU kV kc kg kY kZ;simp-implicitDefEqProofs only[go_sem,zS,↓reduceIte,Za,Zb,Zc,reduceCtorEq,zU,zV,Zf,Zg,Zh,Zi,Zd,Ze,zF,c6];refine(hc st sv H hs (by omega)).mono ?_;rintro r H1 ⟨O,o,K⟩;rw[ae];simp-implicitDefEqProofs only[go_sem,zS,↓reduceIte,Za,Zb,Zc,reduceCtorEq,zU,zV,Zf,Zg,Zh,Zi,Zd,Ze,zF];exact⟨O,o,K⟩
 ·refine ah hk (args:=[_]) (by simp) ?_;unfold nt nu kA kB kC kD kU kV kc kg kY kZ;simp-implicitDefEqProofs only[go_sem,zS,↓reduceIte,Za,Zb,Zc,reduceCtorEq,ae,zU,zV,Zf,Zg,Zh,Zi,Zd,Ze,zF]
def kx (P:Program) (k:FuncId):Prop:=∀(F:dz) (el:List (Nat->Bool)) (st:List Int) (rb i:Nat) (u:Int) (H:Hp),fJ H rb F el st->st.length<=1000->i<st.length->ak P k #[.pointer (some ⟨rb,0,none⟩),.int .i64 (i:Int),.int .i64 u] H fun r H'=>bY H' r (iL (st.set i u))/\(∀q,ay r q->H.size<=q)/\af (fun _=>False) H H'
theorem Kg (hk:an P k (xx ι) xy 3) (hc:cD P (ι.f 159)):kx P k:=by
 intro F el st rb i u H hR hl hi;obtain⟨sv,c6,hs⟩:=hR.Ai;refine ah hk (args:=[_,_,_]) (by simp) ?_;unfold xx xy kA kB kC kD kI kU kc kf kg kY kZ;simp-implicitDefEqProofs only[go_sem,zS,↓reduceIte,Za,Zb,Zc,reduceCtorEq,zU,zV,Zf,Zg,Zh,Zi,Zd,Ze,zF,c6];refine(hc st sv H hs (by omega)).mono ?_;rintro r H1 ⟨O,o,K⟩;obtain⟨b,c,L,rfl,h1,h2,hB,h3,_⟩:=O.some (by intro e';have:=congrArg List.length e';rw[aA,List.length_nil]at this;omega);rw[aA]at h1 h3⊢;have hb:=o b rfl;have t:=hB.br (o:=i) (by omega);have O':=vo hB (l:=iL st) (by rw[aA];exact h1) h2 (by rw[aA];exact h3) i (.int .i64 u) (by rw[aA];exact hi);rw[iW,aA]at O';have K':af (fun q=>q=b) H1 (ax H1 ⟨b,i,none⟩ (.int .i64 u)):=(af.refl _ _).ax _ (.inl rfl);rw[ae];simp-implicitDefEqProofs only[go_sem,zS,↓reduceIte,Za,Zb,Zc,reduceCtorEq,zU,zV,Zf,Zg,Zh,Zi,Zd,Ze,zF,aj,t];refine⟨by omega,?_⟩;rw[ae];simp-implicitDefEqProofs only[go_sem,zS,↓reduceIte,Za,Zb,Zc,reduceCtorEq,zU,zV,Zf,Zg,Zh,Zi,Zd,Ze,zF];refine⟨O',fun q hq=>?_,K.trans' K' fun q hq e=>by omega⟩;have qJ:q=b:=hq;omega
def sU (P:Program) (ι:aC) (k:FuncId):Prop:=(∀(F:dz) (el:List (Nat->Bool)) (st:List Int) (rb:Nat) (H:Hp),aU ι H->fJ H rb F el st->bP (aZ F el)->jV (aZ F el) st->ak P k #[.pointer (some ⟨rb,0,none⟩)] H fun r H'=>af (fun _=>False) H H'/\match cM (aZ F el) st with|none=>r=.slice none 0 0|some t=>aM H' r (iL t))∧
 ∀H,ak P k #[.pointer none] H fun r H'=>r=.slice none 0 0/\H'=H
theorem Pp (hk:an P k (xz ι) xA 1) (hc:iH P ι (ι.f 377)):sU P ι k:=by
 refine⟨fun F el st rb H hT hR hG hB=>?_,fun H=>?_⟩
 ·obtain⟨sv,c6,hs⟩:=hR.Ai;refine ah hk (args:=[_]) (by simp) ?_;unfold xz xA kA kB kF kC kD kQ kU kV kc kg kY kZ;simp-implicitDefEqProofs only[go_sem,zS,↓reduceIte,Za,Zb,Zc,reduceCtorEq,zU,zV,Zf,Zg,Zh,Zi,Zd,Ze,zF,c6];refine(hc F el st st rb sv H hT hR hs hG hB).mono ?_;rintro r H1 ⟨y,rfl,K,hy⟩;rw[ae];simp-implicitDefEqProofs only[go_sem,zS,↓reduceIte,Za,Zb,Zc,reduceCtorEq,zU,zV,Zf,Zg,Zh,Zi,Zd,Ze,zF];exact⟨K,hy⟩
 ·refine ah hk (args:=[_]) (by simp) ?_;unfold xz xA kA kB kF kC kD kQ kU kV kc kg kY kZ;simp-implicitDefEqProofs only[go_sem,zS,↓reduceIte,Za,Zb,Zc,reduceCtorEq,ae,zU,zV,Zf,Zg,Zh,Zi,Zd,Ze,zF]
end Go.Mg
namespace Go.Mg
open Go Go.RowKit
def xB (ι:aC):S:=
 kY [kd 2 (.new (ι.t 128) #[kZ])] (kY [kU 6 (.m (.gz #[kZ] [])),kd 3 (.new (ι.t 128) #[kZ]),kf (.stn 1 (.v 3) (.t 6))] (.seq (kY [kA 7 0,kd 8 (kg (ι.f 379) [.t 7]),kO 9 8,kC 10 (.int .i64 0)] (.blk 0 (.loop (kY [kH 11 10 9] (.seq (.ite (.v 11) .skip (.exit 0)) (.seq (.blk 1 (kY [kA 12 10,kK 13 1 8 10,kD 14 13,kB 4 12,kB 5 14] (kY [kA 15 5,kV 16 (.cm .neq .i64 (.t 15) (.c (.int .i64 0)))] (.ite (.v 16) (.reg [kM 17 1 3,kA 18 4,kc 19 (kg (ι.f 131) [.t 17,.t 18]),kf (.stn 1 (.v 3) (.t 19))]) .skip)))) (.reg [ke 20 10,kB 10 20]))))))) (kY [kM 21 1 3,kf (.stn 1 (.v 2) (.t 21))] .ret)))
def xC:List RV:=[.cn 2 1]
def xD (ι:aC):S:=
 kY [kC 2 (kZ)] (.seq (kY [kA 3 0,kV 4 (.m (.eqn .ptr false (.t 3)))] (.ite (.v 4) (kY [kC 2 (kZ)] .ret) .skip)) (.seq (.dr (kW 5 (.mv (.v 0)) (kW 6 (.nil (.t 5)) (kW 7 (.fa 0 (.t 6)) (kW 8 (.m (.ldn 5 (.t 7))) (kW 9 (.mv (.v 0)) (ka 10 (kg (ι.f 383) [.t 9]) (ka 11 (kg (ι.f 314) [.t 8,.t 10]) (kX 2 (.mv (.t 11)) .done) .wnil) .wnil))))))) .ret))
def xE:List RV:=[.t 2]
def bR (st:List Int) (i:Nat) (k:Nat):Bool:=decide (k<i)&&decide (st.getD k 0≠0)
variable {st:List Int} {i:Nat} {P:Program} {ι:aC} {k:FuncId}
theorem Dz (hi:i<=1000) (h:st.getD i 0≠0):jn (bR st i) (i:Int)=bR st (i+1):=by
 funext k
 unfold jn bR;rw[Bool.eq_iff_iff];simp only[Bool.or_eq_true,Bool.and_eq_true,decide_eq_true_eq]
 constructor
 ·rintro(⟨h1,h2⟩|⟨h1,h2⟩)
  ·exact⟨by omega,h2⟩
  ·have:k=i:=by omega
   subst this;exact⟨by omega,h⟩
 ·rintro⟨h1,h2⟩
  by_cases e:k=i
  ·exact .inr ⟨by omega,by omega⟩
  ·exact .inl ⟨by omega,h2⟩
theorem sW (h:st.getD i 0=0):bR st i=bR st (i+1):=by
 funext k
 unfold bR
 by_cases hk:k=i
 ·subst hk;rw[decide_eq_false (show¬(st.getD k 0≠0)from fun hn=>hn h)];simp
 ·have:decide (k<i)=decide (k<i+1):=by rw[decide_eq_decide];omega
  rw[this]
def oN (P:Program) (k:FuncId):Prop:=(∀(F:dz) (el:List (Nat->Bool)) (st:List Int) (rb:Nat) (H:Hp),fJ H rb F el st->st.length<=1000->ak P k #[.pointer (some ⟨rb,0,none⟩)] H fun r H'=>aQ H' r (bR st st.length)/\af (fun _=>False) H H'/\∀q,iZ r q->H.size<=q)∧
 ∀H,ak P k #[.pointer none] H fun r H'=>aQ H' r (fun _=>false)/\af (fun _=>False) H H'
theorem Kh (hk:an P k (xB ι) xC 1) (hs:gv P (ι.f 379)) (hw:km P (ι.f 131)):oN P k:=by
 have main:∀(x:Value) (st:List Int) (H:Hp),(∀X,af (fun _=>False) H X->ak P (ι.f 379) #[x] X fun r H'=>aM H' r (iL st)/\(∀q,aV r q->X.size<=q)/\af (fun _=>False) X H')->st.length<=1000->ak P k #[x] H fun r H'=>aQ H' r (bR st st.length)/\af (fun _=>False) H H'/\∀q,iZ r q->H.size<=q:=fun x st H hc hl=>by
  refine ah hk (args:=[_]) (by simp) ?_;unfold xB xC kA kB kC kD ke kH kK kM kO kU kV kc kd kf kg kY kZ;simp-implicitDefEqProofs only[go_sem,zS,↓reduceIte,Za,Zb,Zc,reduceCtorEq,zU,zV,Zf,Zg,Zh,Zi,Zd,Ze,zF];refine al fun H1 b2 e1 z1 B1 K1=>?_;have cf:Bl H1 b2 [.slice none 0 0]:=B1;simp-implicitDefEqProofs only[go_sem,zS,↓reduceIte,Za,Zb,Zc,reduceCtorEq,zU,zV,Zf,Zg,Zh,Zi,Zd,Ze,zF];refine bf [.slice none 0 0] (by simp-implicitDefEqProofs only[go_sem,zS,↓reduceIte,Za,Zb,Zc,reduceCtorEq,ae,zU,zV,Zf,Zg,Zh,Zi,Zd,Ze]) rfl rfl rfl fun H2 b3 e2 z2 B2 K2=>?_;simp-implicitDefEqProofs only[go_sem,zS,↓reduceIte,Za,Zb,Zc,reduceCtorEq,zU,zV,Zf,Zg,Zh,Zi,Zd,Ze,zF];refine(hc H2 (K1.trans K2)).mono ?_;rintro r H3 ⟨hr,ho,K3⟩;have nX:=K3.bl B2 (by simp);have gC:=(K2.trans K3).bl cf (by simp);have lr:aO r=st.length:=by rw[hr.len,aA]
  have ew:=(K1.trans K2).trans K3;have s1:=K1.size;have s2:=K2.size;have s3:=K3.size;have lt3:=B2.lt;rw[ae];simp-implicitDefEqProofs only[go_sem,zS,↓reduceIte,Za,Zb,Zc,reduceCtorEq,zU,zV,Zf,Zg,Zh,Zi,Zd,Ze,zF,hr.aq,lr];refine aL st.length [11,4,5,16,10] rfl rfl (by omega) (by simp-implicitDefEqProofs only[go_sem,zS,↓reduceIte,Za,Zb,Zc,reduceCtorEq,ae,zU,zV,Zf,Zg,Zh,Zi,Zd,Ze]) (by simp-implicitDefEqProofs only[go_sem,zS,↓reduceIte,Za,Zb,Zc,reduceCtorEq,ae,zU,zV,Zf,Zg,Zh,Zi,Zd,Ze]) (fun i g X=>∃w,Bl X b3 [w]/\aQ X (.agg #[w]) (bR st i)/\(∀q,aV w q->q≠b3/\q≠b2/\H.size<=q)/\af (fun q=>q=b3) H3 X) ⟨.slice none 0 0,nX,?_,fun q hq=>hq.elim,af.refl _ _⟩ ?_ ?_
  ·have:bR st 0=fun _=>false:=by funext k;simp[bR]
   rw[this];exact aQ.empty _ _ _
  ·rintro i g X hi gi gn ⟨w,BX,SX,ow,KX⟩;simp-implicitDefEqProofs only[go_sem,zS,↓reduceIte,Za,Zb,Zc,reduceCtorEq,ae,zU,zV,Zf,Zg,Zh,Zi,Zd,Ze]at gi gn;obtain⟨sb,so,sc,e,lY⟩:=(hr.ag KX fun q hq e=>by have:=ho q hq;omega).TN (i:=i) hi;have hg:st.getD i 0=st[i]:=by rw[List.getD_eq_getElem?_getD,List.getElem?_eq_getElem hi];rfl
   by_cases h0:st[i]=0
   ·have d1:(st[i] !=0)=false:=by rw[h0];rfl
    simp-implicitDefEqProofs only[go_sem,zS,↓reduceIte,Za,Zb,Zc,reduceCtorEq,zU,zV,Zf,Zg,Zh,Zi,Zd,Ze,zF,gi,e,aj,lY,d1];exact⟨by omega,w,BX,by rw[<-sW (by rw[hg];exact h0)];exact SX,ow,KX⟩
   ·have d1:(st[i] !=0)=true:=bne_iff_ne.2 h0;have l3:aD X (.pointer (some ⟨b3,0,none⟩)) 1=some #[w]:=BX.aD 1 rfl;simp-implicitDefEqProofs only[go_sem,zS,↓reduceIte,Za,Zb,Zc,reduceCtorEq,zU,zV,Zf,Zg,Zh,Zi,Zd,Ze,zF,gi,e,aj,lY,d1,l3];refine⟨by omega,?_⟩;refine(hw _ _ (i:Int) X SX).mono ?_;rintro r X1 ⟨S1,K4,o4⟩;rw[Dz (by omega) (by rw[hg];exact h0)]at S1;obtain⟨w',W',rfl,Rt⟩:=S1;have Ri:=K4.bl BX (by simp);have t3:=Ri.bK (o:=0) (n:=1) (by simp);have a1:bI #[w']:=Rt.sl.one;have K5:af (fun q=>q=b3) X1 (az X1 ⟨b3,0,none⟩ [w']):=(af.refl _ _).az _ (.inl rfl);have B5:=Ri.az 0 [w'];have sX:=KX.size;have ow':∀q,aV w' q->q≠b3/\q≠b2/\H.size<=q:=fun q hq=>by
     rcases o4 q hq with h|h
     ·exact ow q h
     ·have:=BX.lt;have:=gC.lt;omega
    rw[ae];simp-implicitDefEqProofs only[go_sem,zS,↓reduceIte,Za,Zb,Zc,reduceCtorEq,zU,zV,Zf,Zg,Zh,Zi,Zd,Ze,zF,t3];refine⟨a1,?_⟩;rw[ae];simp-implicitDefEqProofs only[go_sem,zS,↓reduceIte,Za,Zb,Zc,reduceCtorEq,zU,zV,Zf,Zg,Zh,Zi,Zd,Ze,zF];exact⟨w',B5,⟨w',W',rfl,Rt.ag K5 fun q hq=>(ow' q hq).1⟩,ow',(KX.trans K4.any).trans K5⟩
  ·rintro g X -⟨w,BX,SX,ow,KX⟩;have l3:aD X (.pointer (some ⟨b3,0,none⟩)) 1=some #[w]:=BX.aD 1 rfl;have WM:=KX.bl gC (by omega);have t2:=WM.bK (o:=0) (n:=1) (by simp);obtain⟨w',W',e',Rt⟩:=SX
   cases e'
   have a1:bI #[w]:=Rt.sl.one;have K5:af (fun q=>q=b2) X (az X ⟨b2,0,none⟩ [w]):=(af.refl _ _).az _ (.inl rfl);have B5:Bl (az X ⟨b2,0,none⟩ [w]) b2 [w]:=WM.az 0 [w];have l2:aD (az X ⟨b2,0,none⟩ [w]) (.pointer (some ⟨b2,0,none⟩)) 1=some #[w]:=B5.aD 1 rfl;simp-implicitDefEqProofs only[go_sem,zS,↓reduceIte,Za,Zb,Zc,reduceCtorEq,zU,zV,Zf,Zg,Zh,Zi,Zd,Ze,zF,l3,t2];refine⟨a1,?_⟩;rw[ae];simp-implicitDefEqProofs only[go_sem,zS,↓reduceIte,Za,Zb,Zc,reduceCtorEq,zU,zV,Zf,Zg,Zh,Zi,Zd,Ze,zF,cU,cV,l2];exact⟨⟨w,W',rfl,Rt.ag K5 fun q hq=>(ow q hq).2.1⟩,(ew.trans' KX fun q hq e=>by omega).trans' K5 fun q hq e=>by omega,fun q hq=>(ow q hq).2.2⟩
 refine⟨fun F el st rb H hR hl=>main _ st H (fun X K=>(hs.1 F el st rb X (hR.ai K) hl).mono fun r X' ⟨O,o,K'⟩=>⟨O.sl,fun q hq=>o q (O.aV hq),K'⟩) hl,fun H=>?_⟩;have:=main (.pointer none) [] H (fun X K=>(hs.2 X).mono fun r X' ⟨e,e'⟩=>by rw[e,e'];exact⟨aM.nil _ _ _,fun q hq=>hq.elim,af.refl _ _⟩) (by simp);have hd:bR [] 0=fun _=>false:=by funext k;simp[bR]
 rw[List.length_nil,hd]at this;exact this.mono fun r X h=>⟨h.1,h.2.1⟩
def ny (P:Program) (ι:aC) (k:FuncId):Prop:=(∀(F:dz) (el:List (Nat->Bool)) (st:List Int) (rb:Nat) (H:Hp),aU ι H->fJ H rb F el st->CO F=true->st.length<=1000->ak P k #[.pointer (some ⟨rb,0,none⟩)] H fun r H'=>aM H' r (iN (jb F.st.length F.be (bR st st.length)))/\af (fun _=>False) H H')∧
 ∀H,ak P k #[.pointer none] H fun r H'=>r=.slice none 0 0/\H'=H
theorem Pq (hk:an P k (xD ι) xE 1) (hd:oN P (ι.f 383)) (hr:r9 P ι (ι.f 314)):ny P ι k:=by
 refine⟨fun F el st rb H hT hR hok hl=>?_,fun H=>?_⟩
 ·have Pr:=hR;obtain⟨s,b,d,a,m,ev,sv,vs,B,hF,he,hel,hst,hes,hsv⟩:=hR;have l5:aR H ⟨rb,0,none⟩ 5=some #[s,b,d,a,m]:=by
   have:=B.aR (o:=0) (n:=5) (by simp);simpa using this
  refine ah hk (args:=[_]) (by simp) ?_;unfold xD xE kA kC kV kW kX ka kg kY kZ;simp-implicitDefEqProofs only[go_sem,zS,↓reduceIte,Za,Zb,Zc,reduceCtorEq,zU,zV,Zf,Zg,Zh,Zi,Zd,Ze,zF];refine bj (fun _=>False) ?_;simp-implicitDefEqProofs only[go_sem,zS,↓reduceIte,Za,Zb,Zc,reduceCtorEq,zU,zV,Zf,Zg,Zh,Zi,Zd,Ze,zF,l5,aB];refine(hd.1 F el st rb H Pr hl).mono ?_;rintro r H1 ⟨S,K,-⟩;rw[aF];refine⟨K,?_⟩;simp-implicitDefEqProofs only[go_sem,zS,↓reduceIte,Za,Zb,Zc,reduceCtorEq,zU,zV,Zf,Zg,Zh,Zi,Zd,Ze,zF];refine(hr F _ r _ H1 (hT.ag K) (hF.ai K) hok S).mono ?_;rintro r H2 ⟨O,o,K2⟩;rw[aF];refine⟨K2,?_⟩;simp-implicitDefEqProofs only[go_sem,zS,↓reduceIte,Za,Zb,Zc,reduceCtorEq,zU,zV,Zf,Zg,Zh,Zi,Zd,Ze,zF];exact⟨O.sl,K.trans K2⟩
 ·refine ah hk (args:=[_]) (by simp) ?_;unfold xD xE kA kC kV kW kX ka kg kY kZ;simp-implicitDefEqProofs only[go_sem,zS,↓reduceIte,Za,Zb,Zc,reduceCtorEq,ae,zU,zV,Zf,Zg,Zh,Zi,Zd,Ze,zF]
end Go.Mg
