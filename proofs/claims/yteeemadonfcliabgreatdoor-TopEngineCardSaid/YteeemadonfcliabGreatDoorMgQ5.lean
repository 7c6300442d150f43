/- Lemmas of ours. No conditions. -/
import Derived.Test.YteeemadonfcliabGreatDoorMgE4
open Nat renaming reduceEqDiff→Za,reduceAdd→Zb,reduceMul→Zc,reduceLeDiff→Zd,reduceLT→Ze
open Int renaming reduceBEq→Zf,reduceBNe→Zg,reduceLE→Zh,reduceLT→Zi
set_option linter.all false
set_option maxRecDepth 100000
namespace Go.Mg
open Go Go.RowKit
def qu (ι:aC):S:=
 kY [kC 4 (.bool false)] (kY [kU 5 (.ld (.v 1)),kU 6 (.ar .add .i64 (.t 5) (.c (.int .i64 1))),kf (.st (.v 1) (.t 6))] (kY [kU 7 (.ld (.v 1)),kU 8 (.ld (.v 2)),kU 9 (.cm .gtr .i64 (.t 7) (.t 8)),kB 4 9] .ret))
def qv:List RV:=[.t 4]
def DU (ι:aC):S:=
 kY [kR 2 (ι.t 358) 0,kR 3 (ι.t 26) 1,kC 4 (.int .i64 0),kC 5 (.int .i64 0)] (.seq (kY [kM 8 5 2,kc 9 (kg (ι.f 360) [.t 8]),kB 6 9] (kY [kA 10 6,kV 11 (.cm .neq .i64 (.t 10) (.c (.int .i64 0)))] (.ite (.v 11) (kY [kA 12 6,kC 4 (.int .i64 0),kB 5 12] .ret) .skip))) (.seq (kY [kU 13 (.ld (.v 3)),kV 14 (.cm .lss .i64 (.t 13) (.c (.int .i64 1)))] (.ite (.v 14) (kY [kC 4 (.int .i64 0),kC 5 (.int .i64 1)] .ret) .skip)) (kY [kd 7 (.new (ι.t 26) #[.int .i64 0]),kf (.st (.v 7) (.c (.int .i64 0)))] (kY [kM 15 5 2,kU 16 (.m (.mkf (ι.f 438) [] [.v 7,.v 3])),kc 17 (kg (ι.f 371) [.t 15,.c (.int .i64 0),.t 16]),kc 18 (kg (ι.f 367) [.t 17,.c (.int .i64 0)])] (.seq (kY [kU 19 (.ld (.v 7)),kU 20 (.ld (.v 3)),kV 21 (.cm .gtr .i64 (.t 19) (.t 20))] (.ite (.v 21) (kY [kC 4 (.int .i64 0),kC 5 (.int .i64 3)] .ret) .skip)) (kY [kU 22 (.ld (.v 7)),kB 4 22,kC 5 (.int .i64 0)] .ret))))))
def DV:List RV:=[.t 4,.t 5]
def xX (ι:aC):S:=
 kY [kR 1 (ι.t 358) 0,kC 2 (.bool false)] (kY [kM 8 5 1,kc 9 (kg (ι.f 373) [.t 8,.c (.int .i64 0)]),kF 7 9,kQ 10 7 0,kQ 11 7 1,kQ 12 7 2,kQ 13 7 3,kc 4 (.new (ι.t 372) #[kZ]),kF 3 10,kf (.stn 1 (.t 4) (.t 11)),kB 5 12,kB 6 13] (kY [kA 14 6,kU 15 (.cm .eql .i64 (.t 14) (.c (.int .i64 0))),kF 16 15,kS 17 16 true 5,kJ 18 16 17,kB 2 18] .ret))
def xY:List RV:=[.t 2]
def W2 (r s q:Nat):Prop:=q=r\/q=s
def PH (lim:Nat) (seen:List (List Int)):Bool:=decide (lim<seen.length)
def acz (r s lim:Nat) (seen:List (List Int)) (H:Hp):Prop:=Bl H r [.int .i64 (seen.length:Int)]/\Bl H s [.int .i64 (lim:Int)]
theorem Fl (lim:Nat):∀(L seen:List (List Int)),seen.length+L.length<=lim->gT (PH lim) seen L=(seen++L,false)
 |[],seen,_=>by simp[gT]
 |t::L,seen,h=>by
  have e:PH lim (seen++[t])=false:=decide_eq_false (by simp only[List.length_append,List.length_cons,List.length_nil]at h⊢;omega);rw[gT,e,if_neg (by simp),Fl lim L (seen++[t]) (by simp only[List.length_append,List.length_cons,List.length_nil]at h⊢;omega),List.append_assoc]
  rfl
variable {P:Program} {ι:aC} {k:FuncId}
theorem Lf (hk:an P k (qu ι) qv 3) {r s lim:Nat} (hne:r≠s) (hlim:lim<=1000000):Ad P (W2 r s) (.func (.func k) #[] #[.pointer (some ⟨r,0,none⟩),.pointer (some ⟨s,0,none⟩)]) (PH lim) (acz r s lim):=by
 refine⟨⟨k,_,rfl,hk.body,fun seen t v H hst hJ hv hn=>?_⟩,fun seen H H' W hst hJ hK hW=>?_⟩
 ·obtain⟨Br,Bs⟩:=hJ;have hsl:seen.length<=lim:=by
   have:=of_decide_eq_false hst;omega
  change ak P k #[v,.pointer (some ⟨r,0,none⟩),.pointer (some ⟨s,0,none⟩)] H _
  refine ah hk (args:=[_,_,_]) (by simp) ?_;unfold qu qv kB kC kU kf kY;have cr:cell H ⟨r,0,none⟩=some (.int .i64 (seen.length:Int)):=by rw[Br.cell];rfl
  have tr:=Br.br (o:=0) (by simp);have w1:IntKind.i64.wrap ((seen.length:Int)+1)=(((seen++[t]).length:Nat):Int):=by
   rw[IntWalk.i64_in _ (by omega)];simp
  have B1:=Br.ax 0 (.int .i64 (((seen++[t]).length:Nat):Int));have K1:af (fun q=>q=r) H (ax H ⟨r,0,none⟩ (.int .i64 (((seen++[t]).length:Nat):Int))):=(af.refl _ _).ax _ (.inl rfl);have B2:=K1.bl Bs (fun e=>hne e.symm);simp-implicitDefEqProofs only[go_sem,zS,↓reduceIte,Za,Zb,Zc,reduceCtorEq,zU,zV,Zf,Zg,Zh,Zi,Zd,Ze,zF,cr,w1,tr];rw[ae];generalize ax H ⟨r,0,none⟩ (.int .i64 (((seen++[t]).length:Nat):Int))=H1 at B1 K1 B2⊢;have c1:cell H1 ⟨r,0,none⟩=some (.int .i64 (((seen++[t]).length:Nat):Int)):=by rw[B1.cell];rfl
  have c2:cell H1 ⟨s,0,none⟩=some (.int .i64 (lim:Int)):=by rw[B2.cell];rfl
  have e:decide ((((seen++[t]).length:Nat):Int)>(lim:Int))=PH lim (seen++[t]):=decide_eq_decide.2 (by omega);simp-implicitDefEqProofs only[go_sem,zS,↓reduceIte,Za,Zb,Zc,reduceCtorEq,ae,zU,zV,Zf,Zg,Zh,Zi,Zd,Ze,zF,c1,c2,e];exact⟨⟨B1,B2⟩,K1.mono fun q _ e=>.inl e⟩
 ·exact⟨hK.bl hJ.1 (hW _ (.inl rfl)),hK.bl hJ.2 (hW _ (.inr rfl))⟩
structure acA (P:Program) (ι:aC):Prop where
 chk:dJ P ι (ι.f 360)
 beg:kt P (ι.f 371)
 vis:an P (ι.f 367) (nk ι) nq 2
 cn1:an P (ι.f 438) (qu ι) qv 3
 vc:Gz P ι
def pd (P:Program) (ι:aC) (k:FuncId):Prop:=∀(p:eT) (fx:List Int) (w lim:Nat) (v:Value) (H:Hp),aU ι H->dE H v p fx->bP p->lj p.el.length fx->(∀k,(aJ (bM p k)).length<=w)->w<=256->1+gN w (cK fx)<=2199023255552→
 1<=lim->lim<=1000000->(en p (cK fx+1) fx).length<=lim->ak P k #[v,.int .i64 (lim:Int)] H fun r H'=>r=.tuple #[.int .i64 (((en p (cK fx+1) fx).length:Nat):Int),.int .i64 0]/\af (fun _=>False) H H'
theorem PI (hk:an P k (DU ι) DV 2) (c:acA P ι):pd P ι k:=by
 intro p fx w lim v H hT hv hG hU hw hw1 hB QX nH hle;refine qI fun Q hQ=>?_;have lO:=hv;obtain⟨el,di,sa,mo,fv,vs,ms,rfl,hp⟩:=hv;refine ah hk (args:=[_,_]) (by simp) ?_;unfold DU DV kA kB kC kM kR kU kV kc kd kf kg kY;have py:=hU.1;have hn0:=hG.n0;have hn:=hG.n;simp-implicitDefEqProofs only[go_sem,zS,↓reduceIte,Za,Zb,Zc,reduceCtorEq,zU,zV,Zf,Zg,Zh,Zi,Zd,Ze,zF];refine al fun H1 b2 e1 z1 B1 K1=>?_;simp-implicitDefEqProofs only[go_sem,zS,↓reduceIte,Za,Zb,Zc,reduceCtorEq,zU,zV,Zf,Zg,Zh,Zi,Zd,Ze,zF];refine al fun H2 b3 e2 z2 B2 K2=>?_;have cG:=K1.trans K2;have fY:Bl H2 b2 [el,di,sa,mo,fv]:=K2.bl B1 (by simp);have Vi:Bl H2 b3 [.int .i64 (lim:Int)]:=B2;have s1:=K1.size;have s2:=K2.size;have sD:((0:Int)!=0)=false:=rfl;have Rs:decide ((lim:Int)<1)=false:=decide_eq_false (by omega);simp-implicitDefEqProofs only[go_sem,zS,↓reduceIte,Za,Zb,Zc,reduceCtorEq,zU,zV,Zf,Zg,Zh,Zi,Zd,Ze,zF,fY.aD 5 rfl];refine(c.chk p fx _ H2 (lO.ai cG) hG hU).mono ?_;rintro r H3 ⟨rfl,K3⟩;have gC:=K3.bl fY (by simp);have nX:=K3.bl Vi (by simp);have c3:cell H3 ⟨b3,0,none⟩=some (.int .i64 (lim:Int)):=by rw[nX.cell];rfl
 have s3:=K3.size;rw[ae];simp-implicitDefEqProofs only[go_sem,zS,↓reduceIte,Za,Zb,Zc,reduceCtorEq,zU,zV,Zf,Zg,Zh,Zi,Zd,Ze,zF,sD,c3,Rs];refine gS (.int .i64 0) (by simp-implicitDefEqProofs only[go_sem,zS,↓reduceIte,Za,Zb,Zc,reduceCtorEq,ae,zU,zV,Zf,Zg,Zh,Zi,Zd,Ze]) rfl fun H4 b7 e4 z4 B4 K4=>?_;have pt:=K4.bl gC (by simp);have zd:=K4.bl nX (by simp);have pD:=(cG.trans K3).trans K4;have s4:=K4.size;simp-implicitDefEqProofs only[go_sem,zS,↓reduceIte,Za,Zb,Zc,reduceCtorEq,zU,zV,Zf,Zg,Zh,Zi,Zd,Ze,zF,pt.aD 5 rfl];have I5:=hp.ai pD;refine(c.beg el di sa mo fv fx _ _ H4 I5.f (by intro e;rw[e]at py;simp at py;omega) (by omega)).mono ?_;rintro r H5 ⟨sB,bQ,fy,nv,rfl,hb1,hb2,BS,OS,ON,on,K5⟩;have s5:=K5.size;have Cw:=pD.trans K5;have B75:=K5.bl B4 (by simp);have SQ:=K5.bl zd (by simp);have hne:b7≠b3:=by have:=nX.lt;omega
 have hev:=Lf (P:=P) c.cn1 (r:=b7) (s:=b3) (lim:=lim) hne nH;have S5:lD H (W2 b7 b3) sB bQ fy el di sa mo fv (.func (.func (ι.f 438)) #[] #[.pointer (some ⟨b7,0,none⟩),.pointer (some ⟨b3,0,none⟩)]) H5 fx nv 1 [cy] fun _=>False:=by
  have l7:=B4.lt;have l3:=zd.lt;refine⟨Cw,by omega,by omega,by omega,⟨?_,?_⟩,?_,⟨0,BS⟩,OS,⟨[AD],ON,rfl,rfl,fun i hi=>?_⟩,fun q hq=>?_,fun q hq=>hq.elim⟩
  ·rintro(h|h)<;>omega
  ·rintro(h|h)<;>omega
  ·rintro q (h|h)<;>omega
  ·have:i=0:=by simpa using hi
   subst this;exact oK.zero _ _
  ·obtain⟨h1,h2,h3⟩:=on q hq;refine⟨by omega,by omega,h2,?_⟩;rintro(h|h)<;>omega
 rw[ae];simp-implicitDefEqProofs only[go_sem,zS,↓reduceIte,Za,Zb,Zc,reduceCtorEq,zU,zV,Zf,Zg,Zh,Zi,Zd,Ze,zF];refine(Af c.vis rfl c.vc hev hp hT hG hU hw hw1 (cK fx) fx nv 1 0 [cy] (fun _=>False) (fun _=>fx) [] H5 rfl hU S5 (iE.start hU) rfl rfl (by omega) hB (decide_eq_false (by simp)) ⟨B75,SQ⟩).mono ?_;rintro r H6 ⟨rfl,J6,K6,hgo⟩;have hd:=Fl lim (en p (cK fx+1) fx) [] (by simpa using hle);rw[List.nil_append]at hd;rw[hd]at J6;obtain⟨J7,J3⟩:=J6;have KH6:af (fun _=>False) H H6:=Cw.trans' K6 fun q hq h=>by
  rcases h with h|h|(h|h)|h
  ·omega
  ·omega
  ·omega
  ·omega
  ·have:=(on _ h).1;omega
 have c7:cell H6 ⟨b7,0,none⟩=some (.int .i64 (((en p (cK fx+1) fx).length:Nat):Int)):=by rw[J7.cell];rfl
 have c3':cell H6 ⟨b3,0,none⟩=some (.int .i64 (lim:Int)):=by rw[J3.cell];rfl
 have e5:decide ((((en p (cK fx+1) fx).length:Nat):Int)>(lim:Int))=false:=decide_eq_false (by omega);rw[ae];simp-implicitDefEqProofs only[go_sem,zS,↓reduceIte,Za,Zb,Zc,reduceCtorEq,ae,zU,zV,Zf,Zg,Zh,Zi,Zd,Ze,zF,c7,c3',e5];rw[hQ];exact⟨rfl,KH6⟩
def jX (P:Program) (ι:aC) (k:FuncId):Prop:=∀(p:eT) (fx:List Int) (w:Nat) (v:Value) (H:Hp),aU ι H->dE H v p fx->bP p->lj p.el.length fx->(∀k,(aJ (bM p k)).length<=w)->w<=256->1+gN w (cK fx)<=2199023255552→
 ak P k #[v] H fun r H'=>r=.bool (cM p fx).isSome/\af (fun _=>False) H H'
theorem Lg (hk:an P k (xX ι) xY 1) (hs:oL P ι (ι.f 373)):jX P ι k:=by
 intro p fx w v H hT hv hG hU hw hw1 hB;have lO:=hv;obtain⟨el,di,sa,mo,fv,vs,ms,rfl,hp⟩:=hv;refine ah hk (args:=[_]) (by simp) ?_;unfold xX xY kA kB kF kC kJ kM kQ kR kS kU kc kf kg kY kZ;simp-implicitDefEqProofs only[go_sem,zS,↓reduceIte,Za,Zb,Zc,reduceCtorEq,zU,zV,Zf,Zg,Zh,Zi,Zd,Ze,zF];refine al fun H1 b2 e1 z1 B1 K1=>?_;have cf:Bl H1 b2 [el,di,sa,mo,fv]:=B1;simp-implicitDefEqProofs only[go_sem,zS,↓reduceIte,Za,Zb,Zc,reduceCtorEq,zU,zV,Zf,Zg,Zh,Zi,Zd,Ze,zF,cf.aD 5 rfl];refine(hs p fx w _ H1 (hT.ag K1) (lO.ai K1) hG hU hw hw1 hB).mono ?_;rintro r H2 ⟨sv,rv,F1,rfl,K2,-⟩;have o1:rv.oneCell'=true:=aI F1;rw[ae];simp-implicitDefEqProofs only[go_sem,zS,↓reduceIte,Za,Zb,Zc,reduceCtorEq,zU,zV,Zf,Zg,Zh,Zi,Zd,Ze,zF];rw[ae];have B3:=Bl.cH H2 #[.slice none 0 0] (ι.t 372);have K3:af (fun _=>False) H2 (H2.push (.cells #[.slice none 0 0] (ι.t 372))):=(af.refl _ _).push _;generalize H2.push (.cells #[.slice none 0 0] (ι.t 372))=H3 at B3 K3⊢;have t3:=B3.bK (o:=0) (n:=1) (by simp);have a1:bI #[rv]:=bg (by simpa using o1);have K4:af (fun q=>q=H2.size) H3 (az H3 ⟨H2.size,0,none⟩ [rv]):=(af.refl _ _).az _ (.inl rfl);have KK:af (fun _=>False) H (az H3 ⟨H2.size,0,none⟩ [rv]):=((K1.trans K2).trans K3).trans' K4 fun q hq e=>by have:=K1.size;have:=K2.size;omega
 simp-implicitDefEqProofs only[go_sem,zS,↓reduceIte,Za,Zb,Zc,reduceCtorEq,zU,zV,Zf,Zg,Zh,Zi,Zd,Ze,zF,t3];refine⟨a1,?_⟩;have sD:((0:Int)==0)=true:=rfl;rw[ae];simp-implicitDefEqProofs only[go_sem,zS,↓reduceIte,Za,Zb,Zc,reduceCtorEq,ae,zU,zV,Zf,Zg,Zh,Zi,Zd,Ze,zF,sD];exact KK
end Go.Mg
namespace Go.Mg
theorem pI {α β:Type} {f:α->List β} {b:Nat}:∀(l:List α),(∀x∈l,(f x).length<=b)->(l.flatMap f).length<=l.length*b
 |[],_=>by simp
 |x::l,h=>by
  rw[List.flatMap_cons,List.length_append,List.length_cons,Nat.add_mul,Nat.one_mul];have:=pI l fun y hy=>h y (List.mem_cons_of_mem _ hy);have:=h x List.mem_cons_self;omega
theorem Fm {p:eT} {w:Nat} (hel:∀k u,bM p k u=true->1<=u) (hw:∀k,(aJ (bM p k)).length<=w):∀(m:Nat) (s:List Int),cK s<m->(en p m s).length<=w^cK s
 |0,s,h=>by omega
 |m+1,s,h=>by
  rw[en]
  by_cases hb:eI p s=true
  ·rw[if_pos hb];exact Nat.zero_le _
  rw[if_neg hb]
  cases hf:s.findIdx? (fun u=>decide (u=0))with
  |none=>rw[Ph (p:=p) hf];exact Nat.le_refl _
  |some k=>
   obtain⟨hk,h0,hlt⟩:=bJ hf;have hp:0<cK s:=by
    unfold cK;rw[List.getD_eq_getElem?_getD,List.getElem?_eq_getElem hk,Option.getD_some]at h0;exact List.countP_pos_iff.2 ⟨s[k],List.getElem_mem _,by simp[h0]⟩
   obtain⟨z,hz⟩:∃z,cK s=z+1:=⟨cK s -1,by omega⟩
   refine Nat.le_trans (pI (b:=w^z) _ fun u hu=>?_) ?_
   ·have hu1:=hel k u (dQ.1 hu).2;have e:=sf hk h0 (u:=(u:Int)) (by omega);have e2:cK (s.set k (u:Int))=z:=by omega
    have:=Fm hel hw m (s.set k (u:Int)) (by omega)
    rwa [e2]at this
   ·rw[hz,Nat.pow_succ,Nat.mul_comm (w^z)];exact Nat.mul_le_mul_right _ (hw k)
theorem Lh {q:Nat->Bool} (h:∀u,q u=true->1<=u/\u<=4):(aJ q).length<=4:=by
 rw[JC fun u hu=>(h u hu).2];have e:List.range 5=0::[1,2,3,4]:=rfl;have h0:q 0=false:=by
  cases hb:q 0 with
  |false=>rfl
  |true=>have:=(h 0 hb).1;omega
 rw[e,List.filter_cons,if_neg (by simp[h0])];exact List.length_filter_le _ _
variable {F:dz} {ms:List UInt64} {st:List Int} {k:Nat}
theorem Lj (hst:st.length=F.st.length) (hn:F.st.length<=5) (hm:GG ms):(fz F ms st).length<=1024:=by
 rw[<-xL hst hm];have hel:∀k u,bM (aZ F (ms.map bt)) k u=true->1<=u/\u<=4:=fun k u h=>by rw[bM,aZ,bN]at h;exact hm k u h
 refine Nat.le_trans (Fm (w:=4) (fun k u h=>(hel k u h).1) (fun k=>Lh (hel k)) _ _ (by omega)) ?_;have hz:cK st<=5:=by
  unfold cK;have:=List.countP_le_length (p:=fun u:Int=>decide (u=0)) (l:=st);omega
 exact Nat.pow_le_pow_right (by decide) hz
theorem Lk {u:Int} (hk:k<st.length) (h0:st.getD k 0=0) (hu:u≠0):(fz F ms (st.set k u)).length<=(fz F ms st).length:=by
 unfold fz;rw[<-List.countP_eq_length_filter,<-List.countP_eq_length_filter];refine List.countP_mono_left fun t _ h=>?_;rw[qn hk h0 hu,Bool.and_eq_true]at h;exact h.1
def uf (p:eT) (fx:List Int) (k:Nat):List Nat:=(aJ (bM p k)).filter fun u=>(decide (fx.getD k 0=0)||decide (fx.getD k 0=((u:Nat):Int)))&&(cM p (fx.set k ((u:Nat):Int))).isSome
theorem Am {n:Nat} {be:List eH} (hl:st.length=n) (hn:n<=4000) (hk:k∈jb n be (bR st st.length)):k<n/\st.getD k 0=0:=by
 obtain⟨rE,hw,hd⟩:=tn.1 hk;refine⟨rE,?_⟩;rw[fZ (by omega)]at hd;unfold bR at hd;rw[decide_eq_true (show k<st.length by omega),Bool.true_and]at hd;simpa using hd
theorem PJ (hS:yk F.st.length st) (hn:F.st.length<=10) (hm:GG ms) (hk:k∈jb F.st.length F.be (bR st st.length)):lV F (ms.map bt) st k 4096=uf (aZ F (ms.map bt)) st k:=by
 obtain⟨rE,h0⟩:=Am hS.1 (by omega) hk;have hl:=hS.1;unfold lV uf;rw[List.take_of_length_le (by unfold aJ;exact Nat.le_trans (List.length_filter_le _ _) (by simp))];have e:bM (aZ F (ms.map bt)) k=(ms.map bt).getD k fun _=>false:=rfl;rw[e];refine List.filter_congr fun u hu=>?_;have TZ:=(dQ.1 hu).2;rw[bN]at TZ;have hu4:=hm k u TZ;rw[decide_eq_true h0,Bool.true_or,Bool.true_and,k8 (by rw[List.length_set];exact hl) hm];rw[Fa hS hn hm]
 cases hc:fz F ms (st.set k ((u:Nat):Int))with
 |nil=>
  rw[decide_eq_false]
  ·rfl
  ·intro h;unfold pG at h;rw[Int.toNat_natCast]at h
   repeat' (split at h)
   all_goals first|omega|(rename_i hx;exact absurd hc hx)
 |cons t L=>
  have ht:t∈fz F ms (st.set k ((u:Nat):Int)):=by rw[hc];simp
  obtain⟨t1,t2,t3⟩:=nA.1 ht;rw[qn (by omega) h0 (by omega),Bool.and_eq_true,decide_eq_true_eq]at t3;have:=(Kt hS hn (nA.2 ⟨t1,t2,t3.1⟩) hk).1;rw[t3.2]at this;rw[this]
  rfl
end Go.Mg
namespace Go.Mg
open Go Go.RowKit
def tB (ι:aC):T:=
 (ka 65 (.app false (ι.t 26) 1 8 #[.int .i64 0] (.t 62) (.t 64)) (kW 66 (.is 1 (.t 57) (.t 58)) (kb (.st (.t 66) (.t 65)) .done .wnil)) .wnil)
def xZ (ι:aC):S:=
 (kY [kM 45 5 1,kd 6 (.new (ι.t 358) #[kZ,kZ,kZ,kZ,kZ]),kf (.stn 5 (.v 6) (.t 45))] (kY [kG 46 4 1,kD 47 46,kc 48 (kg (ι.f 159) [.t 47]),kG 49 4 6,kf (.st (.t 49) (.t 48))] (kY [kG 50 4 6,kD 51 50,kU 52 (.ld (.v 4)),kA 53 5,kI 54 1 51 52,kf (.st (.t 54) (.t 53))] (kY [kM 55 5 6,kd 56 (kg (ι.f 440) [.t 55])] (.ite (.v 56) (.dr (kW 57 (.ld (.v 3)) (kW 58 (.ld (.v 4)) (kW 59 (.ld (.v 3)) (kW 60 (.ld (.v 4)) (kW 61 (.is 1 (.t 59) (.t 60)) (kW 63 (.mv (.v 5)) (ka 62 (.rd (.ld (.t 61))) (ka 64 (.bF (ι.t 26) 1 1 [.t 63]) (tB ι) .wnil) (ka 64 (.bF (ι.t 26) 1 1 [.t 63]) (ka 62 (.rd (.ld (.t 61))) (tB ι) .wnil) .wnil))))))))) .skip)))))
def DW (ι:aC):S:=
 (.blk 3 (.seq (kY [kG 30 4 1,kD 31 30,kU 32 (.ld (.v 4)),kI 33 1 31 32,kD 34 33,kU 35 (.cm .neq .i64 (.t 34) (.c (.int .i64 0))),kF 36 35,kT 37 36 true (.fa 4 (.v 1)),kT 38 36 true (.ld (.t 37)),kT 39 36 true (.ld (.v 4)),kT 40 36 true (.is 1 (.t 38) (.t 39)),kT 41 36 true (.ld (.t 40)),kS 42 36 true 5,kT 43 36 true (.cm .neq .i64 (.t 41) (.t 42)),kV 44 (.pick (.t 36) (.t 43) (.c (.bool false)))] (.ite (.v 44) (.exit 3) .skip)) (xZ ι)))
def x8 (ι:aC):S:=
 kY [kR 1 (ι.t 358) 0,kC 2 (kZ)] (.seq (kY [kM 7 5 1,kc 8 (kg (ι.f 360) [.t 7]),kV 9 (.cm .neq .i64 (.t 8) (.c (.int .i64 0)))] (.ite (.v 9) (kY [kC 2 (kZ)] .ret) .skip)) (kY [kG 10 0 1,kD 11 10,kL 12 11,kc 13 (.pV (ι.t 138) 1 24 #[kZ] (.t 12) (.t 12)),kd 3 (.new (ι.t 441) #[kZ]),kf (.st (.v 3) (.t 13))] (.seq (kY [kM 14 5 1,kc 15 (kg (ι.f 440) [.t 14]),kV 16 (.not (.t 15))] (.ite (.v 16) (kY [kU 17 (.ld (.v 3)),kB 2 17] .ret) .skip)) (.seq (kY [kU 18 (.ld (.v 3)),kV 19 (.m (.lenl (.t 18))),kC 20 (.int .i64 0)] (.blk 0 (.loop (kY [kH 21 20 19] (.seq (.ite (.v 21) .skip (.exit 0)) (.seq (.blk 1 (kY [kA 22 20,kd 4 (.new (ι.t 26) #[.int .i64 0]),kf (.st (.v 4) (.t 22))] (kY [kG 23 0 1,kD 24 23,kU 25 (.ld (.v 4)),kI 26 1 24 25,kN 27 1 26,kd 28 (kg (ι.f 137) [.t 27])] (.blk 2 (.rf 69 (.v 28) 29 5 (DW ι)))))) (.reg [ke 67 20,kB 20 67]))))))) (kY [kU 68 (.ld (.v 3)),kB 2 68] .ret)))))
def x9:List RV:=[.t 2]
def An (p:eT) (fx:List Int) (k u:Nat):Bool:=(decide (fx.getD k 0=0)||decide (fx.getD k 0=((u:Nat):Int)))&&(cM p (fx.set k ((u:Nat):Int))).isSome
variable {P:Program} {ι:aC} {l:List Nat} {u k ob n C b1 b3 b4:Nat} {ws vs:List Value} {f:Fr} {A:Hp} {p:eT} {fx:List Int} {el di sa mo fv:Value} {ms:List MV} {Qb:Ex->Fr->Hp->Prop}
theorem PK {W:Nat->Prop} {w:Value} {bn:Nat} {e:Env} {Q:Fr->Hp->Prop} (hW:∀q,W q↔q=ob\/C<=q)
  (e57:look e 57=.slice (some ⟨ob,0,none⟩) n n) (e58:look e 58=.int .i64 (k:Int)) (e62:look e 62=w) (e64:look e 64=.slice (some ⟨bn,0,none⟩) 1 1)
  (O:bY A w (iN l)) (ho:∀q,ay w q->C<=q) (hl:l.length<=100000) (Bn:Bl A bn (iN [u])) (BO:Bl A ob ws) (hn:ws.length=n) (hk:k<n) (hob:ob<C) (hC:C<=A.size)
  (hK:∀A' w',Bl A' ob (ws.set k w')->bY A' w' (iN (l++[u]))->(∀q,ay w' q->C<=q)->af W A A'->Q f A'):cT P W (tB ι) e f A Q:=by
 unfold tB kW ka kb;have rE:(0:Int)<=(k:Int)/\(k:Int)<(n:Int):=by omega
 simp-implicitDefEqProofs only[go_sem,zS,↓reduceIte,Za,Zb,Zc,reduceCtorEq,zU,zV,Zf,Zg,Zh,Zi,Zd,Ze,zF,e57,e58,e62,e64];refine kh C O ho hC (aM.bl Bn 0 1 1 (by omega) (by simp[aW])) (gH [((u:Nat):Int)]) rfl (by omega) (by simp[aW];omega) fun w' A3 O3 o3 K3=>?_;have B3:=K3.bl BO (by omega);have t3:=B3.br (o:=k) (by omega);have Bs:=B3.ax k w';have Ks:af (fun q=>q=ob) A3 (ax A3 ⟨ob,k,none⟩ w'):=(af.refl _ _).ax _ (.inl rfl);have o1:w'.oneCell'=true:=aI O3.sl.aq;rw[aF];refine⟨K3.mono fun q _ h=>(hW q).2 (.inr h),?_⟩;simp-implicitDefEqProofs only[go_sem,zS,↓reduceIte,Za,Zb,Zc,reduceCtorEq,zU,zV,Zf,Zg,Zh,Zi,Zd,Ze,zF,e57,e58,rE,aj,Nat.mul_one,Nat.zero_add,t3];refine⟨o1,?_⟩;refine⟨Ks.mono fun q _ h=>(hW q).2 (.inl h),?_⟩;refine hK _ w' Bs ?_ o3 ((K3.mono fun q _ h=>(hW q).2 (.inr h)).trans (Ks.mono fun q _ h=>(hW q).2 (.inl h)));rw[rD];exact O3.ag Ks fun q hq e=>by have:=o3 q hq;omega
theorem PL (hc:cD P (ι.f 159)) (hs:jX P ι (ι.f 440))
  (f1:f 1=.pointer (some ⟨b1,0,none⟩)) (f3:f 3=.pointer (some ⟨b3,0,none⟩)) (f4:f 4=.pointer (some ⟨b4,0,none⟩)) (f5:f 5=.int .i64 (u:Int)) (B1:Bl A b1 [el,di,sa,mo,fv]) (B3:Bl A b3 [.slice (some ⟨ob,0,none⟩) n n]) (B4:Bl A b4 [.int .i64 (k:Int)]) (BO:Bl A ob ws) (hn:ws.length=n) (hk:k<n)
  (O:bY A (ws.getD k undef) (iN l)) (ho:∀q,ay (ws.getD k undef) q->C<=q) (hb:b1<C/\b3<C/\b4<C/\ob<C/\b1≠ob/\b3≠ob/\b4≠ob) (hC:C<=A.size) (hl:l.length<=100000)
  (hT:aU ι A) (hp:sC A p fx el di sa mo fv vs ms) (hG:bP p) (hU:lj p.el.length fx) (hel:n=p.el.length) (hB:jV p (fx.set k (u:Int)))
  (hK:∀f' A' w',Bl A' ob (ws.set k w')->bY A' w' (iN (if(cM p (fx.set k (u:Int))).isSome=true then l++[u]else l))->(∀q,ay w' q->C<=q)->af (fun q=>q=ob\/C<=q) A A'->Qb .n f' A'):vc P (xZ ι) Qb f A:=by
 unfold xZ kA kD kG kI kM kU kW ka kc kd kf kg kY kZ;have py:=hU.1;have hgn:=hG.n;have ZR:k<fx.length:=by omega
 obtain⟨w,hw,hw1,NC⟩:=hB.w;have hUs:=hB.u;have ha1:([el,di,sa,mo,fv]:List Value).all (fun v=>v.oneCell')=true:=by simp[aI hp.e.aq,aI hp.d.aq,aI hp.s.aq,aI hp.m.aq,aI hp.f.aq]
 have Fc:(0:Int)<=(k:Int)/\(k:Int)<(fx.length:Int):=by omega
 simp-implicitDefEqProofs only[go_sem,zS,↓reduceIte,Za,Zb,Zc,reduceCtorEq,zU,zV,Zf,Zg,Zh,Zi,Zd,Ze,zF,f1,B1.aD 5 rfl];refine bf [el,di,sa,mo,fv] (by simp-implicitDefEqProofs only[go_sem,zS,↓reduceIte,Za,Zb,Zc,reduceCtorEq,ae,zU,zV,Zf,Zg,Zh,Zi,Zd,Ze]) rfl rfl ha1 fun A1 b6 e6 z6 B6 K6=>?_;have B11:=K6.bl B1 (by simp);have TK:cell A1 ⟨b1,4,none⟩=some fv:=by rw[B11.cell];rfl
 simp-implicitDefEqProofs only[go_sem,zS,↓reduceIte,Za,Zb,Zc,reduceCtorEq,zU,zV,Zf,Zg,Zh,Zi,Zd,Ze,zF,f1,TK];refine(hc fx fv A1 (hp.f.ag K6 (by simp)) (by omega)).mono ?_;rintro nv A2 ⟨O2,o2,K2⟩;have hne:iL fx≠[]:=by intro e;have:=congrArg List.length e;rw[aA,List.length_nil]at this;omega
 obtain⟨bq,cq,Lq,rfl,q1,q2,qB,q3,q4⟩:=O2.some hne;have hbq:=o2 bq rfl;have Xw:=K2.bl B6 (by simp);have t6:=Xw.br (o:=4) (by simp);have B63:=Xw.ax 4 (.slice (some ⟨bq,0,none⟩) (iL fx).length cq);have K3:af (fun q=>q=b6) A2 (ax A2 ⟨b6,4,none⟩ (.slice (some ⟨bq,0,none⟩) (iL fx).length cq)):=(af.refl _ _).ax _ (.inl rfl);have s6:=K6.size;have s2:=K2.size;have qB3:=K3.bl qB (by omega);rw[ae];simp-implicitDefEqProofs only[go_sem,zS,↓reduceIte,Za,Zb,Zc,reduceCtorEq,zU,zV,Zf,Zg,Zh,Zi,Zd,Ze,zF,t6];rw[ae];generalize ax A2 ⟨b6,4,none⟩ (.slice (some ⟨bq,0,none⟩) (iL fx).length cq)=A3 at B63 K3 qB3⊢;have s3:=K3.size;have Rj:af (fun _=>False) A A3:=(K6.trans K2).trans' K3 fun q hq e=>by omega
 have XN:Bl A3 b6 [el,di,sa,mo,.slice (some ⟨bq,0,none⟩) (iL fx).length cq]:=B63;have c64:cell A3 ⟨b6,4,none⟩=some (.slice (some ⟨bq,0,none⟩) (iL fx).length cq):=by rw[XN.cell];rfl
 have c43:cell A3 ⟨b4,0,none⟩=some (.int .i64 (k:Int)):=by rw[(Rj.bl B4 (by simp)).cell];rfl
 rw[aA]at q1;have tq:=qB3.br (o:=k) (by omega);have qO:=vo qB3 (l:=iL fx) (by rw[aA];exact q1) q2 q3 k (.int .i64 (u:Int)) (by rw[aA];exact ZR);rw[iW]at qO;have K4:af (fun q=>q=bq) A3 (ax A3 ⟨bq,k,none⟩ (.int .i64 (u:Int))):=(af.refl _ _).ax _ (.inl rfl);simp-implicitDefEqProofs only[go_sem,zS,↓reduceIte,Za,Zb,Zc,reduceCtorEq,zU,zV,Zf,Zg,Zh,Zi,Zd,Ze,zF,f4,f5,c64,c43,aA,Fc,aj,Nat.mul_one,Nat.zero_add,tq];rw[ae];have Vk:af (fun _=>False) A (ax A3 ⟨bq,k,none⟩ (.int .i64 (u:Int))):=Rj.trans' K4 fun q hq e=>by omega
 have B64:=K4.bl XN (by omega);generalize ax A3 ⟨bq,k,none⟩ (.int .i64 (u:Int))=A4 at qO K4 Vk B64⊢;have I5:=hp.ai Vk;have hP4:dE A4 (.agg #[el,di,sa,mo,.slice (some ⟨bq,0,none⟩) (iL fx).length cq]) p (fx.set k (u:Int)):=⟨_,_,_,_,_,vs,ms,rfl,I5.e,I5.el,I5.es,I5.d,I5.s,I5.m,I5.ms,qO.sl⟩
 simp-implicitDefEqProofs only[go_sem,zS,↓reduceIte,Za,Zb,Zc,reduceCtorEq,zU,zV,Zf,Zg,Zh,Zi,Zd,Ze,zF,B64.aD 5 rfl];refine(hs p (fx.set k (u:Int)) w _ A4 (hT.ag Vk) hP4 hG hUs hw hw1 NC).mono ?_;rintro r A5 ⟨rfl,K5⟩;have zg:=Vk.trans K5;rw[ae]
 cases GN:(cM p (fx.set k (u:Int))).isSome with
 |false=>
  rw[GN,if_neg (by simp)]at hK;have hwk:ws.set k (ws.getD k undef)=ws:=by
   rw[List.getD_eq_getElem?_getD,List.getElem?_eq_getElem (by omega)];exact List.set_getElem_self _
  simp-implicitDefEqProofs only[go_sem,zS,↓reduceIte,Za,Zb,Zc,reduceCtorEq,zU,zV,Zf,Zg,Zh,Zi,Zd,Ze,zF];exact hK _ A5 (ws.getD k undef) (by rw[hwk];exact zg.bl BO (by simp)) (O.ag zg (by simp)) ho zg.any
 |true=>
  rw[GN,if_pos rfl]at hK;have s5:=zg.size;have SQ:=zg.bl B3 (by simp);have RB:=zg.bl B4 (by simp);have ZS:=zg.bl BO (by simp);have O5:=O.ag zg (by simp);have c35:cell A5 ⟨b3,0,none⟩=some (.slice (some ⟨ob,0,none⟩) n n):=by rw[SQ.cell];rfl
  have c45:cell A5 ⟨b4,0,none⟩=some (.int .i64 (k:Int)):=by rw[RB.cell];rfl
  have cO:∀X,af (fun _=>False) A5 X->cell X ⟨ob,k,none⟩=some (ws.getD k undef):=fun X K=>by
   rw[(K.bl ZS (by simp)).cell,List.getD_eq_getElem?_getD,List.getElem?_eq_getElem (by omega)];rfl
  obtain⟨W,hW⟩:∃W:Nat->Prop,W=fun q=>q=ob\/C<=q:=⟨_,rfl⟩
  have w3:W b3=False:=by rw[hW];exact eq_false (by omega)
  have w4:W b4=False:=by rw[hW];exact eq_false (by omega)
  have hbn:(0:Int)<=(k:Int)/\(k:Int)<(n:Int):=by omega
  simp-implicitDefEqProofs only[go_sem,zS,↓reduceIte,Za,Zb,Zc,reduceCtorEq,zU,zV,Zf,Zg,Zh,Zi,Zd,Ze,zF];refine bj W ?_;simp-implicitDefEqProofs only[go_sem,zS,↓reduceIte,Za,Zb,Zc,reduceCtorEq,zU,zV,Zf,Zg,Zh,Zi,Zd,Ze,zF,f3,f4,f5,c35,c45,w3,w4,hbn,aj,Nat.mul_one,Nat.zero_add,cO A5 (af.refl _ _)];have Kp:af (fun _=>False) A5 (A5.push (.cells #[.int .i64 (u:Int)] (ι.t 26))):=(af.refl _ _).push _;have cOp:=cO _ Kp;have Bn:Bl (A5.push (.cells #[.int .i64 (u:Int)] (ι.t 26))) A5.size (iN [u]):=Bl.cH _ _ _;have lf:∀(e:Env) (g:Fr),look e 57=.slice (some ⟨ob,0,none⟩) n n->look e 58=.int .i64 (k:Int)->look e 62=ws.getD k undef->look e 64=.slice (some ⟨A5.size,0,none⟩) 1 1->cT P W (tB ι) e g (A5.push (.cells #[.int .i64 (u:Int)] (ι.t 26))) (Qb .n):=fun e g e57 e58 e62 e64=>by
   refine PK (C:=C) (fun q=>by rw[hW]) e57 e58 e62 e64 (O5.ag Kp (by simp)) ho hl Bn (Kp.bl ZS (by simp)) hn hk (by omega) (by have:=Kp.size;omega) fun A' w' q1 q2 q3 q4=>?_;rw[hW]at q4;exact hK g A' w' q1 q2 q3 ((zg.trans Kp).any.trans q4)
  refine⟨⟨af.refl _ _,Kp.any,lf _ _ rfl rfl rfl rfl⟩,Kp.any,by rw[cOp];rfl,af.refl _ _,lf _ _ rfl rfl (by rw[cOp];rfl) rfl⟩
theorem PN (hc:cD P (ι.f 159)) (hs:jX P ι (ι.f 440))
  (f1:f 1=.pointer (some ⟨b1,0,none⟩)) (f3:f 3=.pointer (some ⟨b3,0,none⟩)) (f4:f 4=.pointer (some ⟨b4,0,none⟩)) (f5:f 5=.int .i64 (u:Int)) (B1:Bl A b1 [el,di,sa,mo,fv]) (B3:Bl A b3 [.slice (some ⟨ob,0,none⟩) n n]) (B4:Bl A b4 [.int .i64 (k:Int)]) (BO:Bl A ob ws) (hn:ws.length=n) (hk:k<n)
  (O:bY A (ws.getD k undef) (iN l)) (ho:∀q,ay (ws.getD k undef) q->C<=q) (hb:b1<C/\b3<C/\b4<C/\ob<C/\b1≠ob/\b3≠ob/\b4≠ob) (hC:C<=A.size) (hl:l.length<=100000)
  (hT:aU ι A) (hp:sC A p fx el di sa mo fv vs ms) (hG:bP p) (hU:lj p.el.length fx) (hel:n=p.el.length) (hku:bM p k u=true) (hB:jV p (fx.set k (u:Int)))
  (hK:∀f' A' w',Bl A' ob (ws.set k w')->bY A' w' (iN (if An p fx k u=true then l++[u]else l))->(∀q,ay w' q->C<=q)->af (fun q=>q=ob\/C<=q) A A'->Qb .n f' A'):vc P (DW ι) Qb f A:=by
 unfold DW kF kD kG kI kS kT kU kV kY;have py:=hU.1;have hgn:=hG.n;have TK:cell A ⟨b1,4,none⟩=some fv:=by rw[B1.cell];rfl
 have c4:cell A ⟨b4,0,none⟩=some (.int .i64 (k:Int)):=by rw[B4.cell];rfl
 have ZR:k<fx.length:=by omega
 obtain⟨fb,fo,fc,fe,VK⟩:=hp.f.TN ZR;have Ha:fx.getD k 0=fx[k]:=by rw[List.getD_eq_getElem?_getD,List.getElem?_eq_getElem ZR];rfl
 have Fc:(0:Int)<=(k:Int)/\(k:Int)<(fx.length:Int):=by omega
 have Ao:∀f' A',af (fun _=>False) A A'->An p fx k u=false->Qb .n f' A':=fun f' A' K h=>by
  have hwk:ws.set k (ws.getD k undef)=ws:=by
   rw[List.getD_eq_getElem?_getD,List.getElem?_eq_getElem (by omega)];exact List.set_getElem_self _
  refine hK f' A' (ws.getD k undef) (by rw[hwk];exact K.bl BO (by simp)) ?_ ho K.any;rw[h];exact O.ag K (by simp)
 by_cases hgo:fx[k]=0\/fx[k]=(u:Int)
 case neg=>
  have h1:fx[k]≠0:=fun h=>hgo (.inl h);have h2:fx[k]≠(u:Int):=fun h=>hgo (.inr h);have d1:(fx[k] !=0)=true:=by simpa using h1
  have d2:(fx[k] !=(u:Int))=true:=by simpa using h2
  simp-implicitDefEqProofs only[go_sem,zS,↓reduceIte,Za,Zb,Zc,reduceCtorEq,zU,zV,Zf,Zg,Zh,Zi,Zd,Ze,zF,f1,f4,f5,TK,c4,fe,aj,Nat.mul_one,Fc,VK,d1,d2];refine Ao _ _ (af.refl _ _) ?_;unfold An;rw[Ha,decide_eq_false h1,decide_eq_false h2];rfl
 have hpc:An p fx k u=(cM p (fx.set k ((u:Nat):Int))).isSome:=by
  unfold An;rw[Ha];rcases hgo with h|h
  ·rw[decide_eq_true h,Bool.true_or,Bool.true_and]
  ·rw[decide_eq_true h,Bool.or_true,Bool.true_and]
 rw[hpc]at hK Ao;have d3:(if(fx[k] !=0)=true then Value.bool (fx[k] !=(u:Int))else .bool false)=.bool false:=by
  rcases hgo with h|h
  ·have:(fx[k] !=0)=false:=by simpa using h
   rw[this];rfl
  ·have:(fx[k] !=(u:Int))=false:=by simpa using h
   rw[this];split<;>rfl
 have fin:∀(f:Fr),f 1=.pointer (some ⟨b1,0,none⟩)->f 3=.pointer (some ⟨b3,0,none⟩)->f 4=.pointer (some ⟨b4,0,none⟩)->f 5=.int .i64 (u:Int)->vc P (xZ ι) (pL 3 Qb) f A:=fun f f1 f3 f4 f5=>by
  refine PL hc hs f1 f3 f4 f5 B1 B3 B4 BO hn hk O ho hb hC hl hT hp hG hU hel hB fun f' A' w' q1 q2 q3 q4=>?_;simp-implicitDefEqProofs only[go_sem,zS,↓reduceIte,Za,Zb,Zc,reduceCtorEq,ae,zU,zV,Zf,Zg,Zh,Zi,Zd,Ze];exact hK f' A' w' q1 q2 q3 q4
 by_cases h0:fx[k]=0
 ·have d1:(fx[k] !=0)=false:=by simpa using h0
  simp-implicitDefEqProofs only[go_sem,zS,↓reduceIte,Za,Zb,Zc,reduceCtorEq,zU,zV,Zf,Zg,Zh,Zi,Zd,Ze,zF,f1,f4,f5,TK,c4,fe,aj,Nat.mul_one,Fc,VK,d1];exact fin _ (by simp-implicitDefEqProofs only[go_sem,zS,↓reduceIte,Za,Zb,Zc,reduceCtorEq,ae,zU,zV,Zf,Zg,Zh,Zi,Zd,Ze,f1]) (by simp-implicitDefEqProofs only[go_sem,zS,↓reduceIte,Za,Zb,Zc,reduceCtorEq,ae,zU,zV,Zf,Zg,Zh,Zi,Zd,Ze,f3]) (by simp-implicitDefEqProofs only[go_sem,zS,↓reduceIte,Za,Zb,Zc,reduceCtorEq,ae,zU,zV,Zf,Zg,Zh,Zi,Zd,Ze,f4]) (by simp-implicitDefEqProofs only[go_sem,zS,↓reduceIte,Za,Zb,Zc,reduceCtorEq,ae,zU,zV,Zf,Zg,Zh,Zi,Zd,Ze,f5])
 ·have d1:(fx[k] !=0)=true:=by simpa using h0
  have d2:(fx[k] !=(u:Int))=false:=by simpa using hgo.resolve_left h0
  simp-implicitDefEqProofs only[go_sem,zS,↓reduceIte,Za,Zb,Zc,reduceCtorEq,zU,zV,Zf,Zg,Zh,Zi,Zd,Ze,zF,f1,f4,f5,TK,c4,fe,aj,Nat.mul_one,Fc,VK,d1,d2];exact fin _ (by simp-implicitDefEqProofs only[go_sem,zS,↓reduceIte,Za,Zb,Zc,reduceCtorEq,ae,zU,zV,Zf,Zg,Zh,Zi,Zd,Ze,f1]) (by simp-implicitDefEqProofs only[go_sem,zS,↓reduceIte,Za,Zb,Zc,reduceCtorEq,ae,zU,zV,Zf,Zg,Zh,Zi,Zd,Ze,f3]) (by simp-implicitDefEqProofs only[go_sem,zS,↓reduceIte,Za,Zb,Zc,reduceCtorEq,ae,zU,zV,Zf,Zg,Zh,Zi,Zd,Ze,f4]) (by simp-implicitDefEqProofs only[go_sem,zS,↓reduceIte,Za,Zb,Zc,reduceCtorEq,ae,zU,zV,Zf,Zg,Zh,Zi,Zd,Ze,f5])
structure acB (P:Program) (ι:aC):Prop where
 chk:dJ P ι (ι.f 360)
 slv:jX P ι (ι.f 440)
 cln:cD P (ι.f 159)
 all:dy P (ι.f 137) (ι.f 136)
 a1:bB P (ι.f 136)=true
 aY:iu P (ι.f 136) (eP ι) eQ 2
 tz:gW P ι (ι.f 126)
def tC (p:eT) (fx:List Int) (k i:Nat):List Nat:=((aJ (bM p k)).take i).filter (An p fx k)
def tD (P:Program) (ι:aC) (k:FuncId):Prop:=∀(p:eT) (fx:List Int) (v:Value) (H:Hp),aU ι H->dE H v p fx->bP p->jV p fx->(∀k u,k<p.el.length->bM p k u=true->jV p (fx.set k (u:Int)))->(cM p fx).isSome=true→
 ak P k #[v] H fun r H'=>(∃vs,aM H' r vs/\vs.length=p.el.length/\∀j<p.el.length,aM H' (vs.getD j undef) (iN (uf p fx j)))/\af (fun _=>False) H H'
theorem Ll {k:FuncId} (hk:dx P k (x8 ι) x9 1 69) (c:acB P ι):tD P ι k:=by
 intro p fx v H hT hv hG hB hBs GN;have lO:=hv;obtain⟨el,di,sa,mo,fv,vs,ms,rfl,hp⟩:=hv;have hn:=hG.n;have hn0:=hG.n0;have hU:=hB.u;have py:=hU.1;have hvl:=hp.el;obtain⟨w,hw,hw1,NC⟩:=hB.w;refine qI fun Q hQ=>?_;refine dk hk (args:=[_]) (by simp) ?_;unfold x8 x9 kA kB kC kD ke kG kH kI kL kM kN kR kU kV kc kd kf kg kY kZ;simp-implicitDefEqProofs only[go_sem,zS,↓reduceIte,Za,Zb,Zc,reduceCtorEq,zU,zV,Zf,Zg,Zh,Zi,Zd,Ze,zF];refine al fun H1 b1 e1 z1 B1 K1=>?_;have cf:Bl H1 b1 [el,di,sa,mo,fv]:=B1;have sD:((0:Int)!=0)=false:=rfl;simp-implicitDefEqProofs only[go_sem,zS,↓reduceIte,Za,Zb,Zc,reduceCtorEq,zU,zV,Zf,Zg,Zh,Zi,Zd,Ze,zF,cf.aD 5 rfl];refine(c.chk p fx _ H1 (lO.ai K1) hG hU).mono ?_;rintro r H2 ⟨rfl,K2⟩;have fY:=K2.bl cf (by simp);have c0:cell H2 ⟨b1,0,none⟩=some el:=by rw[fY.cell];rfl
 have hel:aO el=p.el.length:=by rw[hp.e.len,hvl]
 have hes:=hp.e.aq;rw[ae];simp-implicitDefEqProofs only[go_sem,zS,↓reduceIte,Za,Zb,Zc,reduceCtorEq,zU,zV,Zf,Zg,Zh,Zi,Zd,Ze,zF,sD,c0,hel,hes];refine⟨⟨by omega,by omega,by unfold maxLen;omega⟩,?_⟩;refine aG fun H3 ob e3 z3 B3 K3=>?_;rw[dg]at B3;simp-implicitDefEqProofs only[go_sem,zS,↓reduceIte,Za,Zb,Zc,reduceCtorEq,zU,zV,Zf,Zg,Zh,Zi,Zd,Ze,zF];refine gS (.slice (some ⟨ob,0,none⟩) p.el.length p.el.length) (by simp-implicitDefEqProofs only[go_sem,zS,↓reduceIte,Za,Zb,Zc,reduceCtorEq,ae,zU,zV,Zf,Zg,Zh,Zi,Zd,Ze]) rfl fun H4 b3 e4 z4 B4 K4=>?_;have BO4:=K4.bl B3 (by simp);have pt:=(K3.trans K4).bl fY (by simp);have pD:=((K1.trans K2).trans K3).trans K4;simp-implicitDefEqProofs only[go_sem,zS,↓reduceIte,Za,Zb,Zc,reduceCtorEq,zU,zV,Zf,Zg,Zh,Zi,Zd,Ze,zF,pt.aD 5 rfl];refine(c.slv p fx w _ H4 (hT.ag pD) (lO.ai pD) hG hU hw hw1 NC).mono ?_;rintro r H5 ⟨rfl,K5⟩;have Cw:=pD.trans K5;have RB:=K5.bl B4 (by simp);have ZS:=K5.bl BO4 (by simp);have EK:=K5.bl pt (by simp);have c3:cell H5 ⟨b3,0,none⟩=some (.slice (some ⟨ob,0,none⟩) p.el.length p.el.length):=by rw[RB.cell];rfl
 have s1:=K1.size;have s2:=K2.size;have s3:=K3.size;have s4:=K4.size;have s5:=K5.size;have obl:=B3.lt;have b3l:=B4.lt;have b1l:=cf.lt;rw[ae,GN];simp-implicitDefEqProofs only[go_sem,zS,↓reduceIte,Za,Zb,Zc,reduceCtorEq,zU,zV,Zf,Zg,Zh,Zi,Zd,Ze,zF,c3];have bE:∀X,af (fun q=>q=ob) H5 X->af (fun _=>False) H X:=fun X K=>Cw.trans' K fun q hq e=>by omega
 refine aL p.el.length [21,4,28,69,20] rfl rfl (by omega) (by simp-implicitDefEqProofs only[go_sem,zS,↓reduceIte,Za,Zb,Zc,reduceCtorEq,ae,zU,zV,Zf,Zg,Zh,Zi,Zd,Ze]) (by simp-implicitDefEqProofs only[go_sem,zS,↓reduceIte,Za,Zb,Zc,reduceCtorEq,ae,zU,zV,Zf,Zg,Zh,Zi,Zd,Ze]) (fun i g X=>∃ws,ws.length=p.el.length/\Bl X ob ws/\(∀j<i,bY X (ws.getD j undef) (iN (uf p fx j))/\∀q,ay (ws.getD j undef) q->H5.size<=q)/\(∀j,i<=j->j<p.el.length->ws.getD j undef=.slice none 0 0)/\(iJ (g 69)).Nodup/\(∀d∈iJ (g 69),H5.size<=d/\X[d]?=some (.deferred (some [])))/\af (fun q=>q=ob) H5 X) ?_ ?_ ?_
 ·refine⟨_,by simp,ZS,fun j hj=>by omega,fun j _ hj=>?_,?_,?_,af.refl _ _⟩
  ·rw[List.getD_eq_getElem?_getD,List.getElem?_replicate,if_pos hj];rfl
  ·simp-implicitDefEqProofs only[go_sem,zS,↓reduceIte,Za,Zb,Zc,reduceCtorEq,ae,zU,zV,Zf,Zg,Zh,Zi,Zd,Ze,cC];exact List.nodup_nil
  ·simp[go_sem,zS,↓reduceIte,Za,Zb,Zc,reduceCtorEq,ae,zU,zV,Zf,Zg,Zh,Zi,Zd,Ze,cC]
 ·rintro k g X rE gi gn ⟨ws,AA,BO,hws,hwn,hnd,hmk,KX⟩;simp-implicitDefEqProofs only[go_sem,zS,↓reduceIte,Za,Zb,Zc,reduceCtorEq,ae,zU,zV,Zf,Zg,Zh,Zi,Zd,Ze]at gi gn hnd hmk;have lh:=bE X KX;have sX:=KX.size;simp-implicitDefEqProofs only[go_sem,zS,↓reduceIte,Za,Zb,Zc,reduceCtorEq,zU,zV,Zf,Zg,Zh,Zi,Zd,Ze,zF,gi];refine gS (.int .i64 (k:Int)) (by simp-implicitDefEqProofs only[go_sem,zS,↓reduceIte,Za,Zb,Zc,reduceCtorEq,ae,zU,zV,Zf,Zg,Zh,Zi,Zd,Ze]) rfl fun X1 b4 e6 z6 B6 K6=>?_;have KH1:=lh.trans K6;have Zt:=K6.bl (KX.bl EK (by omega)) (by simp);have B3X:=K6.bl (KX.bl RB (by omega)) (by simp);have BO1:=K6.bl BO (by simp);have c0:cell X1 ⟨b1,0,none⟩=some el:=by rw[Zt.cell];rfl
  have c4:cell X1 ⟨b4,0,none⟩=some (.int .i64 (k:Int)):=by rw[B6.cell];rfl
  have hp1:=hp.ai KH1;obtain⟨sb,so,sc,e,hld⟩:=hp1.e.ld1 (i:=k) (by omega);have hS0:=hp.es k (by omega);have hS:=hp1.es k (by omega);have Fc:(0:Int)<=(k:Int)/\(k:Int)<(vs.length:Int):=by omega
  generalize vs.getD k undef=wv at*;simp-implicitDefEqProofs only[go_sem,zS,↓reduceIte,Za,Zb,Zc,reduceCtorEq,zU,zV,Zf,Zg,Zh,Zi,Zd,Ze,zF,c0,c4,e,aj,Nat.mul_one,Fc,hld,aB];refine(c.all wv X1).mono ?_;rintro r X2 ⟨rfl,Bs,K7,z7⟩;rw[ae];obtain⟨u0,W0,hu0,hV⟩:=hS
  cases hu0
  have W7:=hV.ag K7 (by simp);have Po:=KH1.trans K7;have BO2:=K7.bl BO1 (by simp);have TP:=K7.bl Zt (by simp);have acC:=K7.bl B3X (by simp);have acD:=K7.bl B6 (by simp);have s6:=K6.size;have s7:=K7.size;have hvo:∀q,aV wv q->q<H.size:=fun q hq=>aQ.bE hS0 (k:=q) hq;have XO:∀Y,af (fun q=>q=ob) X2 Y->af (fun _=>False) H Y:=fun Y K=>Po.trans' K fun q hq e=>by omega
  have acE:=hwn k (Nat.le_refl _) rE;have hkw:k<ws.length:=by omega
  have acF:ws.set k (.slice none 0 0)=ws:=by
   rw[<-acE,List.getD_eq_getElem?_getD,List.getElem?_eq_getElem hkw];exact List.set_getElem_self _
  have b6l:=B6.lt;simp-implicitDefEqProofs only[go_sem,zS,↓reduceIte,Za,Zb,Zc,reduceCtorEq,zU,zV,Zf,Zg,Zh,Zi,Zd,Ze,zF];refine uE (fun q=>q=ob) (fun i Y=>∃w',Bl Y ob (ws.set k w')/\bY Y w' (iN (tC p fx k i))/\∀q,ay w' q->X2.size+2<=q) (fun _ _=>False) (G:=fun Y=>aU ι Y/\Bl Y X1.size [wv]/\dS Y wv W0 (bM p k)) (by simp-implicitDefEqProofs only[go_sem,zS,↓reduceIte,Za,Zb,Zc,reduceCtorEq,ae,zU,zV,Zf,Zg,Zh,Zi,Zd,Ze];rfl) c.a1 (iv c.aY c.tz) ?_ ?_ ?_ ?_ ?_ ?_ ?_ ?_
  ·rintro q rfl;omega
  ·rintro i Y KY _;exact⟨hT.ag (XO Y KY),KY.bl Bs (by omega),W7.ag KY fun q hq h=>by have:=hvo q hq;omega⟩
  ·intro Y KY gX;exact⟨.slice none 0 0,by rw[acF];exact KY.bl BO2 (by simp),by simpa[tC,iN,iL]using bY.nil Y,fun q hq=>hq.elim⟩
  ·rintro i Y Y2 gX KY ⟨w',j1,j2,j3⟩ KK;exact⟨w',KK.bl j1 (by omega),j2.ag KK fun q hq h=>by have:=j3 q hq;omega,j3⟩
  ·rintro e' Y Y2 gX KY h KK;exact h
  ·rintro i Y qE KY gX ⟨w',j1,j2,j3⟩;have hkl:i<(aJ (bM p k)).length:=by simpa[bL]using qE
   obtain⟨u,hu⟩:∃u,u=(aJ (bM p k))[i]:=⟨_,rfl⟩
   have hxv:(bL (bM p k)).getD i undef=.int .i64 (u:Int):=by
    rw[List.getD_eq_getElem?_getD,List.getElem?_eq_getElem qE];simp[bL,hu]
   have TZ:bM p k u=true:=(dQ.1 (show u∈aJ (bM p k) by rw[hu];exact List.getElem_mem _)).2;rw[hxv];have uK:tC p fx k (i+1)=if An p fx k u=true then tC p fx k i++[u]else tC p fx k i:=by
    unfold tC;rw[List.take_succ_eq_append_getElem hkl,List.filter_append,<-hu]
    by_cases h:An p fx k u=true
    ·rw[if_pos h];simp[h]
    ·rw[if_neg h];simp[h]
   have uL:(tC p fx k i).length<=100000:=by
    unfold tC;refine Nat.le_trans (List.length_filter_le _ _) ?_;rw[List.length_take];have:=fA 4096 (bM p k);have:=bO (bM p k);omega
   have ZK:(ws.set k w').getD k undef=w':=by rw[List.getD_eq_getElem?_getD,List.getElem?_set_self hkw];rfl
   have MD:=XO Y KY;refine PN c.cln c.slv (p:=p) (fx:=fx) (vs:=vs) (ms:=ms) (b1:=b1) (b3:=b3) (b4:=b4) (ob:=ob) (k:=k) (u:=u) (n:=p.el.length) (C:=X2.size+2) (l:=tC p fx k i) (ws:=ws.set k w') (by simp-implicitDefEqProofs only[go_sem,zS,↓reduceIte,Za,Zb,Zc,reduceCtorEq,ae,zU,zV,Zf,Zg,Zh,Zi,Zd,Ze]) (by simp-implicitDefEqProofs only[go_sem,zS,↓reduceIte,Za,Zb,Zc,reduceCtorEq,ae,zU,zV,Zf,Zg,Zh,Zi,Zd,Ze]) (by simp-implicitDefEqProofs only[go_sem,zS,↓reduceIte,Za,Zb,Zc,reduceCtorEq,ae,zU,zV,Zf,Zg,Zh,Zi,Zd,Ze]) (by simp-implicitDefEqProofs only[go_sem,zS,↓reduceIte,Za,Zb,Zc,reduceCtorEq,ae,zU,zV,Zf,Zg,Zh,Zi,Zd,Ze]) (KY.bl TP (by omega)) (KY.bl acC (by omega)) (KY.bl acD (by omega)) j1 (by rw[List.length_set];exact AA) rE (by rw[ZK];exact j2) (by rw[ZK];exact j3) ⟨by omega,by omega,by omega,by omega,by omega,by omega,by omega⟩ gX uL (hT.ag MD) (hp.ai MD) hG hU rfl TZ (hBs k u rE TZ) fun f' A' w'' q1 q2 q3 KK=>?_;rw[List.set_set]at q1;exact⟨KK,w'',q1,by rw[uK];exact q2,q3⟩
  ·rintro Y KY gX hd ⟨w',j1,j2,j3⟩;have sd:(bL (bM p k)).length=(aJ (bM p k)).length:=by simp[bL]
   have iQ:tC p fx k (aJ (bM p k)).length=uf p fx k:=by
    unfold tC;rw[List.take_length];rfl
   rw[sd,iQ]at j2;have ZT:af (fun q=>q=ob) X Y:=(K6.trans K7).any.trans KY;have sXY:=ZT.size;simp-implicitDefEqProofs only[go_sem,zS,↓reduceIte,Za,Zb,Zc,reduceCtorEq,ae,zU,zV,Zf,Zg,Zh,Zi,Zd,Ze];refine⟨ws.set k w',by rw[List.length_set];exact AA,j1,fun j hj=>?_,fun j h1 h2=>?_,?_,?_,KX.trans ZT⟩
   ·by_cases e:j=k
    ·subst e;rw[List.getD_eq_getElem?_getD,List.getElem?_set_self hkw];exact⟨j2,fun q hq=>by have:=j3 q hq;omega⟩
    ·rw[List.getD_eq_getElem?_getD,List.getElem?_set_ne (fun h=>e h.symm),<-List.getD_eq_getElem?_getD];obtain⟨g1,g2⟩:=hws j (by omega);exact⟨g1.ag ZT fun q hq h=>by have:=g2 q hq;omega,g2⟩
   ·rw[List.getD_eq_getElem?_getD,List.getElem?_set_ne (by omega),<-List.getD_eq_getElem?_getD];exact hwn j (by omega) h2
   ·refine List.nodup_cons.2 ⟨fun h=>?_,hnd⟩;have:=(Array.getElem?_eq_some_iff.1 (hmk _ h).2).1;omega
   ·refine⟨⟨by omega,hd⟩,fun d hd2=>?_⟩;obtain⟨p1,p2⟩:=hmk d hd2;have hlt:=(Array.getElem?_eq_some_iff.1 p2).1;exact⟨p1,by rw[ZT.at_ d hlt (by omega)];exact p2⟩
  ·rintro e' Y KY gX hd h;exact h.elim
 ·rintro g X gi ⟨ws,AA,BO,hws,hwn,hnd,hmk,KX⟩;simp-implicitDefEqProofs only[go_sem,zS,↓reduceIte,Za,Zb,Zc,reduceCtorEq,ae,zU,zV,Zf,Zg,Zh,Zi,Zd,Ze]at hnd hmk;have c3:cell X ⟨b3,0,none⟩=some (.slice (some ⟨ob,0,none⟩) p.el.length p.el.length):=by rw[(KX.bl RB (by omega)).cell];rfl
  simp-implicitDefEqProofs only[go_sem,zS,↓reduceIte,Za,Zb,Zc,reduceCtorEq,ae,zU,zV,Zf,Zg,Zh,Zi,Zd,Ze,zF,c3];refine⟨hnd,fun d hd=>(hmk d hd).2,fun A2 hs2 hk2=>?_⟩;have M:af (fun q=>q∈iJ (g 69)) X A2:=⟨by omega,fun q _ h=>hk2 q h⟩
  have hdd:∀{b:Nat} {L:List Value},Bl X b L->b∉iJ (g 69):=fun B h=>by
   obtain⟨T,hB⟩:=B;rw[(hmk _ h).2]at hB
   cases hB
  have BO2:=M.bl BO (hdd BO);rw[hQ];refine⟨⟨ws,?_,AA,fun j hj=>?_⟩,(bE X KX).trans' M fun q hq h=>by have:=(hmk q h).1;omega⟩
  ·have:=(bY.new (n:=p.el.length) (c:=p.el.length) BO2 AA.symm rfl).sl;exact this
  ·obtain⟨g1,g2⟩:=hws j hj;refine(g1.ag M fun q hq h=>?_).sl;rcases g1 with⟨e,_⟩|⟨b,c',L,e,_,_,Ro,_⟩
   ·rw[e]at hq;exact hq.elim
   ·rw[e]at hq;have e2:q=b:=hq;subst e2;exact hdd Ro h
end Go.Mg
