/- Lemmas of ours. No conditions. -/
import Derived.Test.YteeemadonfcliaaGreatDoorMgFB
open Nat renaming reduceEqDiff→Za,reduceAdd→Zb,reduceMul→Zc
set_option linter.all false
set_option maxRecDepth 100000
namespace Go.Mg
open Go Go.RowKit
def Cf:Array Value:=Array.mk (List.append [.slice none 0 0,.slice none 0 0] (List.append (List.replicate 256 (.int .i64 0)) (List.replicate 512 (.bool false))))
def qp (ι:aJ):S:=
 kY [kC 2 (.int .i64 0)] (.seq (kY [kA 7 0,kL 8 7,kV 9 (.cm .gtr .i64 (.t 8) (.c (.int .i64 256)))] (.ite (.v 9) (kY [kC 2 (.int .i64 3)] .ret) .skip)) (.seq (kY [kV 10 (.mv (.v 0)),kO 11 10,kC 12 (.int .i64 0)] (.blk 0 (.loop (kY [kH 13 12 11] (.seq (.ite (.v 13) .skip (.exit 0)) (.seq (.blk 1 (kY [kK 14 1 10 12,kN 15 1 14,kd 4 (.new (ι.t 128) #[kZ]),kf (.stn 1 (.v 4) (.t 15))] (kY [kM 17 1 4,kc 18 (kg (ι.f 134) [.t 17]),kF 16 18,kQ 19 16 0,kQ 20 16 1,kB 5 19,kB 6 20] (kY [kA 21 6,kF 22 21,kS 23 22 true 5,kT 24 22 true (.cm .geq .i64 (.t 23) (.c (.int .i64 256))),kV 25 (.pick (.t 22) (.t 24) (.c (.bool false)))] (.ite (.v 25) (kY [kC 2 (.int .i64 1)] .ret) .skip))))) (.reg [ke 26 12,kB 12 26]))))))) (kY [kC 2 (.int .i64 0)] .ret)))
def qq:List RV:=[.t 2]
structure Rn (H:Hp) (v:Value) (ps:List (Nat->Bool)) (Z:Nat->Prop) (vs:List Value):Prop where
 sl:aG H v vs
 len:vs.length=ps.length
 at_:∀i,i<ps.length->aS H (.agg #[vs.getD i undef]) (ps.getD i fun _=>false)
 z1:∀k,aU v k->Z k
 z2:∀i k,i<ps.length->aU (vs.getD i undef) k->Z k
def Hd (H:Hp) (v:Value) (ps:List (Nat->Bool)) (Z:Nat->Prop):Prop:=∃vs,Rn H v ps Z vs
variable {H H':Hp} {v:Value} {Z X:Nat->Prop}
theorem Rn.ag {ps:List (Nat->Bool)} {vs:List Value} (h:Rn H v ps Z vs) (hk:af X H H') (hx:∀k,k<H.size->Z k->¬X k):Rn H' v ps Z vs:=
 ⟨h.sl.ag hk fun k hb=>hx k (h.sl.bM hb) (h.z1 k hb),h.len,fun i hi=>(h.at_ i hi).ag hk fun k hb=>hx k ((h.at_ i hi).bM hb) (h.z2 i k hi hb),h.z1,h.z2⟩
theorem Hd.ag {ps:List (Nat->Bool)} (h:Hd H v ps Z) (hk:af X H H') (hx:∀k,k<H.size->Z k->¬X k):Hd H' v ps Z:=let⟨vs,h⟩:=h;⟨vs,h.ag hk hx⟩
theorem Hd.aj {ps:List (Nat->Bool)} (h:Hd H v ps Z) (hk:af (fun _=>False) H H'):Hd H' v ps Z:=h.ag hk (fun _ _ _ h=>h)
def wide (ps:List (Nat->Bool)):Bool:=ps.any fun p=>(aD p).any fun n=>decide (256<=n)
def je (ps:List (Nat->Bool)):Int:=if 256<ps.length then 3 else if wide ps=true then 1 else 0
theorem lN {ps:List (Nat->Bool)}:wide ps=true↔∃p∈ps,∃n,n<4096/\p n=true/\256<=n:=by
 unfold wide;simp only[List.any_eq_true,decide_eq_true_eq,bH];exact⟨fun⟨p,h1,n,⟨h2,h3⟩,h4⟩=>⟨p,h1,n,h2,h3,h4⟩,fun⟨p,h1,n,h2,h3,h4⟩=>⟨p,h1,n,⟨h2,h3⟩,h4⟩⟩
def ik (P:Program) (k:FuncId):Prop:=∀(ps:List (Nat->Bool)) (v:Value) (Z:Nat->Prop) (H:Hp),Hd H v ps Z->ps.length<=100000->an P k #[v] H fun r H'=>r=.int .i64 (je ps)/\af (fun _=>False) H H'
theorem DC {P:Program} {ι:aJ} {k:FuncId} (hk:aq P k (qp ι) qq 1) (hg:ib P (ι.f 134)):ik P k:=by
 intro ps v Z H ⟨vs,hv⟩ hl;refine ah hk (args:=[_]) (by simp) ?_;unfold qp qq kA kB kF kC ke kH kK kL kM kN kO kQ kS kT kV kc kd kf kg kY kZ;simp only[go_sem,zS,↓reduceIte,Za,Zb,Zc,reduceCtorEq,ae,hv.sl.ax,hv.sl.len,hv.len]
 by_cases h0:256<ps.length
 ·have e0:decide (((ps.length:Nat):Int)>256)=true:=decide_eq_true (by omega);simp only[go_sem,zS,↓reduceIte,Za,Zb,Zc,reduceCtorEq,ae,e0];exact⟨by unfold je;rw[if_pos h0],af.refl _ _⟩
 ·have e0:decide (((ps.length:Nat):Int)>256)=false:=decide_eq_false (by omega);simp only[go_sem,zS,↓reduceIte,Za,Zb,Zc,reduceCtorEq,ae,e0,hv.sl.ax,hv.sl.len,hv.len];refine aL [13,4,5,6,25,2,12] rfl (fun n f H'=>∃i,i<=ps.length/\n=ps.length -i/\f 12=.int .i64 i/\(∀j,j<i->∀n,(ps.getD j fun _=>false) n=true->n<256)/\af (fun _=>False) H H') ps.length
   ⟨0,by omega,by omega,by simp only[go_sem,zS,↓reduceIte,Za,Zb,Zc,reduceCtorEq,ae];rfl,fun j hj=>by omega,af.refl _ _⟩ ?_
  rintro n g H1 ⟨i,hi,rfl,hf,hx,K1⟩;simp only[go_sem,zS,↓reduceIte,Za,Zb,Zc,reduceCtorEq,ae]at hf;simp only[go_sem,zS,↓reduceIte,Za,Zb,Zc,reduceCtorEq,hf];refine aC (fun hlt=>?_) (fun gx=>?_)
  ·have hlt:i<ps.length:=by omega
   have hv1:=hv.ag K1 (fun _ _ _ h=>h);obtain⟨b,o,c,rfl,-,hc⟩:=hv1.sl.cells (by intro e;have h:=congrArg List.length e;rw[hv.len,List.length_nil]at h;omega);rw[hv.len]at hc;have hci:=hc i hlt;have hS:=hv1.at_ i hlt;have Gj:vs[i]?=some (vs.getD i undef):=by rw[List.getD_eq_getElem?_getD,List.getElem?_eq_getElem (by rw[hv.len];exact hlt)];rfl
   rw[Gj]at hci;generalize vs.getD i undef=u at*;have hld:aR H1 ⟨b,o+i,none⟩ 1=some #[u]:=by
    obtain⟨C,T,z,hb,hz⟩:∃C T z,H1[b]?=some (.cells C T z)/\C[o+i]?=some u:=by
     simp only[cell]at hci
     split at hci
     ·rename_i C T z hb;exact⟨C,T,z,hb,by simpa using hci⟩
     ·cases hci
    have yQ:=(Array.getElem?_eq_some_iff.1 hz).1;simp only[aR,hb,Option.isSome_none,Bool.false_eq_true,if_false];rw[if_pos (by omega)]
    congr 1
    apply Array.ext';rw[Array.toList_extract,List.extract_eq_take_drop];have:o+i<C.toList.length:=by simpa using yQ
    rw[List.drop_eq_getElem_cons this];have e1:o+i+1 -(o+i)=1:=by omega
    rw[e1];have:=(Array.getElem?_eq_some_iff.1 hz).2;simpa using this
   simp only[go_sem,zS,↓reduceIte,Za,Zb,Zc,reduceCtorEq,hf,hv.len,ai,Nat.mul_one,aB,hld];refine⟨by omega,?_⟩;refine ay fun H2 b2 e2 z2 B2 K2=>?_;have jS:bQ #[u]:=by obtain⟨uv,W,e,hw⟩:=hS;cases e;exact hw.sl.one
   have P8:=B2.bK (o:=0) (n:=1) (by simp);have B3:=B2.aA 0 [u];have B3:Bl (aA H2 ⟨b2,0,none⟩ [u]) b2 [u]:=by simpa[iE]using B3
   have K3:af (fun k=>k=b2) H2 (aA H2 ⟨b2,0,none⟩ [u]):=(af.refl _ _).aA _ (.inl rfl);have Oy:=B3.aR (o:=0) (n:=1) (by simp);simp only[go_sem,zS,↓reduceIte,Za,Zb,Zc,reduceCtorEq,ae,zF,P8,jS];generalize aA H2 ⟨b2,0,none⟩ [u]=H3 at B3 K3 Oy⊢;have e3:(List.take 1 (List.drop 0 [u])).toArray=#[u]:=rfl;rw[e3]at Oy;have mf:af (fun _=>False) H H3:=(K1.trans K2).bD K3 (by have:=K1.size;omega);have He:aS H3 (.agg #[u]) (ps.getD i fun _=>false):=(hS.aj K2).ag K3 (fun k hb e=>by
    have:=hS.bM hb;omega)
   simp only[aB,Oy,Option.isSome_some,Option.getD_some,true_and];refine(hg _ _ H3 He).mono ?_;rintro r H4 ⟨hr,K4⟩;rcases hr with⟨rfl,hnone⟩|⟨t,rfl,ht⟩
   ·simp(disch:=omega)only[go_sem,zS,↓reduceIte,Za,Zb,Zc,reduceCtorEq,ae,hf,IntWalk.i64_in];refine⟨ps.length -(i+1),by omega,i+1,by omega,rfl,by simp,fun j hj n hn=>?_,mf.trans K4⟩
    by_cases e:j=i
    ·subst e;rw[hnone]at hn;cases hn
    ·exact hx j (by omega) n hn
   ·by_cases DA:(256:Int)<=(t:Int)
    ·simp only[go_sem,zS,↓reduceIte,Za,Zb,Zc,reduceCtorEq,ae,ge_iff_le,DA];refine⟨?_,mf.trans K4⟩;unfold je;rw[if_neg h0,if_pos];refine lN.2 ⟨ps.getD i fun _=>false,?_,t,He.lt ht.1,ht.1,by omega⟩;rw[List.getD_eq_getElem?_getD,List.getElem?_eq_getElem hlt];exact List.getElem_mem _
    ·simp(disch:=omega)only[go_sem,zS,↓reduceIte,Za,Zb,Zc,reduceCtorEq,ae,hf,ge_iff_le,DA,IntWalk.i64_in];refine⟨ps.length -(i+1),by omega,i+1,by omega,rfl,by simp,fun j hj n hn=>?_,mf.trans K4⟩
     by_cases e:j=i
     ·subst e;have:=ht.2 n hn;omega
     ·exact hx j (by omega) n hn
  ·have:i=ps.length:=by omega
   subst this;refine⟨?_,K1⟩;unfold je;rw[if_neg h0,if_neg];intro hw;obtain⟨p,hp,n,_,hn,DA⟩:=lN.1 hw;obtain⟨j,hj,rfl⟩:=List.getElem_of_mem hp;have:=hx j hj n (by rw[List.getD_eq_getElem?_getD,List.getElem?_eq_getElem hj];exact hn);omega
end Go.Mg
namespace Go.Mg
open Go Go.RowKit
def Ak (ι:aJ):S:=
 kY [kC 4 (.bool false)] (.seq (kY [kA 7 0,kU 8 (.nil (.t 7)),kU 9 (.fa 0 (.t 8)),kD 10 9,kA 11 1,kI 12 1 10 11,kV 13 (.ld (.t 12)),kO 14 13,kC 15 (.int .i64 0)] (.blk 0 (.loop (kY [kH 16 15 14] (.seq (.ite (.v 16) .skip (.exit 0)) (.seq (.blk 1 (kY [kK 17 1 13 15,kD 18 17,kB 6 18] (.seq (kY [kA 19 0,kA 20 6,kU 21 (.nil (.t 19)),kU 22 (.fa 514 (.t 21)),kU 23 (.ia 256 1 (.t 22) (.t 20)),kD 24 23,kF 25 24,kS 26 25 false 0,kS 27 25 false 6,kT 28 25 false (.nil (.t 26)),kT 29 25 false (.fa 258 (.t 28)),kT 30 25 false (.ia 256 1 (.t 29) (.t 27)),kT 31 25 false (.ld (.t 30)),kV 32 (.pick (.t 25) (.c (.bool true)) (.t 31))] (.ite (.v 32) (.exit 1) .skip)) (kY [kA 33 0,kA 34 6,kU 35 (.nil (.t 33)),kU 36 (.fa 514 (.t 35)),kU 37 (.ia 256 1 (.t 36) (.t 34)),kf (.st (.t 37) (.c (.bool true)))] (kY [kA 38 0,kA 39 6,kU 40 (.nil (.t 38)),kU 41 (.fa 2 (.t 40)),kU 42 (.ia 256 1 (.t 41) (.t 39)),kD 43 42,kU 44 (.cm .lss .i64 (.t 43) (.c (.int .i64 0))),kF 45 44,kS 46 45 false 0,kS 47 45 false 0,kS 48 45 false 6,kT 49 45 false (.nil (.t 47)),kT 50 45 false (.fa 2 (.t 49)),kT 51 45 false (.ia 256 1 (.t 50) (.t 48)),kT 52 45 false (.ld (.t 51)),.ge (.t 53) (.t 45) false (kg (ι.f 147) [.t 46,.t 52]),kV 54 (.pick (.t 45) (.c (.bool true)) (.t 53))] (.ite (.v 54) (.seq (.dr (kW 55 (.mv (.v 0)) (kW 56 (.nil (.t 55)) (kW 57 (.fa 1 (.t 56)) (kW 59 (.mv (.v 1)) (kW 60 (.mv (.v 0)) (kW 61 (.mv (.v 6)) (kW 62 (.mv (.v 6)) (kW 63 (.mv (.v 1)) (kW 65 (.nil (.t 60)) (kW 66 (.fa 2 (.t 65)) (ka 58 (.rd (.ld (.t 57))) (kW 64 (.is 1 (.t 58) (.t 59)) (kb (.st (.t 64) (.t 62)) (kW 67 (.ia 256 1 (.t 66) (.t 61)) (kb (.st (.t 67) (.t 63)) .done .wnil)) .wnil)) .wnil)))))))))))) (kY [kC 4 (.bool true)] .ret)) .skip)))))) (.reg [ke 68 15,kB 15 68]))))))) (kY [kC 4 (.bool false)] .ret))
def Al:List RV:=[.t 4]
def il (gv lv:Value) (R:List Int) (F Se:List Bool):List Value:=gv::lv::(iL R++(bL F++bL Se))
section
variable {gv lv:Value} {R:List Int} {F Se:List Bool} (hR:R.length=256) (hF:F.length=256) (hS:Se.length=256)
include hR in
theorem Cg {j:Nat} (hj:j<256):(il gv lv R F Se)[2+j]?=some (.int .i64 (gi R j)):=by
 unfold il gi;rw[show 2+j=j+1+1 by omega,List.getElem?_cons_succ,List.getElem?_cons_succ,List.getElem?_append_left (by rw[ak];omega),bW _ _ (by omega)];simp[List.getD_eq_getElem?_getD,show j<R.length by omega]
include hR hF in
theorem M3 {j:Nat} (hj:j<256):(il gv lv R F Se)[258+j]?=some (.bool (bu F j)):=by
 unfold il bu;rw[show 258+j=256+j+1+1 by omega,List.getElem?_cons_succ,List.getElem?_cons_succ,List.getElem?_append_right (by rw[ak];omega),ak,hR,show 256+j -256=j by omega,List.getElem?_append_left (by rw[ft];omega),sE _ _ (by omega)];simp[List.getD_eq_getElem?_getD,show j<F.length by omega]
include hR hF hS in
theorem TE {j:Nat} (hj:j<256):(il gv lv R F Se)[514+j]?=some (.bool (bu Se j)):=by
 unfold il bu;rw[show 514+j=512+j+1+1 by omega,List.getElem?_cons_succ,List.getElem?_cons_succ,List.getElem?_append_right (by rw[ak];omega),ak,hR,show 512+j -256=256+j by omega,List.getElem?_append_right (by rw[ft];omega),ft,hF,show 256+j -256=j by omega,sE _ _ (by omega)];simp[List.getD_eq_getElem?_getD,show j<Se.length by omega]
include hR in
theorem xx {j:Nat} (hj:j<256) (x:Int):(il gv lv R F Se).set (2+j) (.int .i64 x)=il gv lv (R.set j x) F Se:=by
 unfold il;rw[show 2+j=j+1+1 by omega,List.set_cons_succ,List.set_cons_succ,List.set_append_left _ _ (by rw[ak];omega),fU]
include hR hF in
theorem xy {j:Nat} (hj:j<256) (x:Bool):(il gv lv R F Se).set (258+j) (.bool x)=il gv lv R (F.set j x) Se:=by
 unfold il;rw[show 258+j=256+j+1+1 by omega,List.set_cons_succ,List.set_cons_succ,List.set_append_right _ _ (by rw[ak];omega),ak,hR,show 256+j -256=j by omega,List.set_append_left _ _ (by rw[ft];omega),sF]
include hR hF hS in
theorem xz {j:Nat} (hj:j<256) (x:Bool):(il gv lv R F Se).set (514+j) (.bool x)=il gv lv R F (Se.set j x):=by
 unfold il;rw[show 514+j=512+j+1+1 by omega,List.set_cons_succ,List.set_cons_succ,List.set_append_right _ _ (by rw[ak];omega),ak,hR,show 512+j -256=256+j by omega,List.set_append_right _ _ (by rw[ft];omega),ft,hF,show 256+j -256=j by omega,sF]
include hR hF hS in
theorem cT:(il gv lv R F Se).length=770:=by
 unfold il;simp[ak,ft,hR,hF,hS]
include hR hF hS in
theorem Ch {S':List Bool} (h:S'.length=256):iE (il gv lv R F Se) 514 (bL S')=il gv lv R F S':=by
 unfold iE;have e1:(il gv lv R F Se).take 514=gv::lv::(iL R++bL F):=by
  unfold il;rw[show 514=512+1+1 from rfl,List.take_succ_cons,List.take_succ_cons,<-List.append_assoc,List.take_left' (by simp[ak,ft,hR,hF])]
 have e2:(il gv lv R F Se).drop (514+(bL S').length)=[]:=List.drop_eq_nil_of_le (by rw[cT hR hF hS,ft,h];omega);rw[e1,e2];unfold il;simp
include hR hF hS in
theorem Ld {R':List Int} (h:R'.length=256):iE (il gv lv R F Se) 2 (iL R')=il gv lv R' F Se:=by
 unfold iE il;rw[ak,h,show 2+256=256+1+1 from rfl,List.drop_succ_cons,List.drop_succ_cons,List.drop_left' (by rw[ak,hR])];simp
include hR in
theorem Hf:((il gv lv R F Se).drop 2).take 256=iL R:=by
 unfold il;rw[show 2=0+1+1 from rfl,List.drop_succ_cons,List.drop_succ_cons,List.drop_zero,List.take_left' (by rw[ak,hR])]
end
structure jv (H:Hp) (s bl:Nat) (gv:Value) (vs:List Value) (g:List (List Nat)) (Z:Nat->Prop) (st:cN) (F:List Bool):Prop where
 S:Bl H s (il gv (.slice (some ⟨bl,0,none⟩) st.L.length st.L.length) st.R F st.Se)
 L:Bl H bl (iL st.L)
 ne:s≠bl
 sl:aG H gv vs
 len:vs.length=g.length
 at_:∀i,i<g.length->aG H (vs.getD i undef) (iL (nI (g.getD i [])))
 z1:∀k,aU gv k->Z k
 z2:∀i k,i<g.length->aU (vs.getD i undef) k->Z k
 zs:¬Z s
 zl:¬Z bl
 lL:st.L.length=g.length
 lR:st.R.length=256
 lS:st.Se.length=256
 lF:F.length=256
theorem jv.ag {H H':Hp} {s bl:Nat} {gv:Value} {vs:List Value} {g:List (List Nat)} {Z X:Nat->Prop} {st:cN} {F:List Bool} (h:jv H s bl gv vs g Z st F) (hk:af X H H') (h1:¬X s) (h2:¬X bl) (h3:∀k,k<H.size->Z k->¬X k):jv H' s bl gv vs g Z st F:=
 ⟨hk.bl h.S h1,hk.bl h.L h2,h.ne,h.sl.ag hk fun k hb=>h3 k (h.sl.bM hb) (h.z1 k hb),h.len,fun i hi=>(h.at_ i hi).ag hk fun k hb=>h3 k ((h.at_ i hi).bM hb) (h.z2 i k hi hb),h.z1,h.z2,h.zs,h.zl,h.lL,h.lR,h.lS,h.lF⟩
theorem jv.toLen {H:Hp} {s bl:Nat} {gv:Value} {vs:List Value} {g:List (List Nat)} {Z:Nat->Prop} {st:cN} {F:List Bool} (h:jv H s bl gv vs g Z st F):Ec g.length 256 st:=⟨h.lL,h.lR,h.lS⟩
theorem jv.Hg {H:Hp} {s bl:Nat} {gv:Value} {vs:List Value} {g:List (List Nat)} {Z:Nat->Prop} {st:cN} {F:List Bool} (h:jv H s bl gv vs g Z st F) {j:Nat} (hj:j<256) (x:Bool):jv (al H ⟨s,514+j,none⟩ (.bool x)) s bl gv vs g Z ⟨st.L,st.R,st.Se.set j x⟩ F:=by
 have K:af (fun k=>k=s) H (al H ⟨s,514+j,none⟩ (.bool x)):=(af.refl _ _).al _ (.inl rfl);have B:=h.S.al (514+j) (.bool x);rw[xz h.lR h.lF h.lS hj]at B;exact⟨B,K.bl h.L (fun e=>h.ne e.symm),h.ne,h.sl.ag K fun k hb e=>h.zs (e▸h.z1 k hb),h.len,fun i hi=>(h.at_ i hi).ag K fun k hb e=>h.zs (e▸h.z2 i k hi hb),h.z1,h.z2,h.zs,h.zl,h.lL,h.lR,by simp[h.lS],h.lF⟩
theorem jv.Hh {H:Hp} {s bl:Nat} {gv:Value} {vs:List Value} {g:List (List Nat)} {Z:Nat->Prop} {st:cN} {F:List Bool} (h:jv H s bl gv vs g Z st F) {j:Nat} (hj:j<256) (x:Int):jv (al H ⟨s,2+j,none⟩ (.int .i64 x)) s bl gv vs g Z ⟨st.L,st.R.set j x,st.Se⟩ F:=by
 have K:af (fun k=>k=s) H (al H ⟨s,2+j,none⟩ (.int .i64 x)):=(af.refl _ _).al _ (.inl rfl);have B:=h.S.al (2+j) (.int .i64 x);rw[xx h.lR hj]at B;exact⟨B,K.bl h.L (fun e=>h.ne e.symm),h.ne,h.sl.ag K fun k hb e=>h.zs (e▸h.z1 k hb),h.len,fun i hi=>(h.at_ i hi).ag K fun k hb e=>h.zs (e▸h.z2 i k hi hb),h.z1,h.z2,h.zs,h.zl,h.lL,by simp[h.lR],h.lS,h.lF⟩
theorem jv.TF {H:Hp} {s bl:Nat} {gv:Value} {vs:List Value} {g:List (List Nat)} {Z:Nat->Prop} {st:cN} {F:List Bool} (h:jv H s bl gv vs g Z st F) {j:Nat} (hj:j<256) (x:Bool):jv (al H ⟨s,258+j,none⟩ (.bool x)) s bl gv vs g Z st (F.set j x):=by
 have K:af (fun k=>k=s) H (al H ⟨s,258+j,none⟩ (.bool x)):=(af.refl _ _).al _ (.inl rfl);have B:=h.S.al (258+j) (.bool x);rw[xy h.lR h.lF hj]at B;exact⟨B,K.bl h.L (fun e=>h.ne e.symm),h.ne,h.sl.ag K fun k hb e=>h.zs (e▸h.z1 k hb),h.len,fun i hi=>(h.at_ i hi).ag K fun k hb e=>h.zs (e▸h.z2 i k hi hb),h.z1,h.z2,h.zs,h.zl,h.lL,h.lR,h.lS,by simp[h.lF]⟩
theorem jv.Le {H:Hp} {s bl:Nat} {gv:Value} {vs:List Value} {g:List (List Nat)} {Z:Nat->Prop} {st:cN} {F:List Bool} (h:jv H s bl gv vs g Z st F) (i:Nat) (x:Int):jv (al H ⟨bl,i,none⟩ (.int .i64 x)) s bl gv vs g Z ⟨st.L.set i x,st.R,st.Se⟩ F:=by
 have K:af (fun k=>k=bl) H (al H ⟨bl,i,none⟩ (.int .i64 x)):=(af.refl _ _).al _ (.inl rfl);have B:=h.L.al i (.int .i64 x);rw[fU]at B;exact⟨by have:=K.bl h.S h.ne;simpa using this,B,h.ne,h.sl.ag K fun k hb e=>h.zl (e▸h.z1 k hb),h.len,fun i hi=>(h.at_ i hi).ag K fun k hb e=>h.zl (e▸h.z2 i k hi hb),h.z1,h.z2,h.zs,h.zl,by simp[h.lL],h.lR,h.lS,h.lF⟩
theorem jv.u6 {H:Hp} {s bl:Nat} {gv:Value} {vs:List Value} {g:List (List Nat)} {Z:Nat->Prop} {st:cN} {F:List Bool} (h:jv H s bl gv vs g Z st F) {S':List Bool} (hS:S'.length=256):jv (aA H ⟨s,514,none⟩ (bL S')) s bl gv vs g Z ⟨st.L,st.R,S'⟩ F:=by
 have K:af (fun k=>k=s) H (aA H ⟨s,514,none⟩ (bL S')):=(af.refl _ _).aA _ (.inl rfl);have B:=h.S.aA 514 (bL S');rw[Ch h.lR h.lF h.lS hS]at B;exact⟨B,K.bl h.L (fun e=>h.ne e.symm),h.ne,h.sl.ag K fun k hb e=>h.zs (e▸h.z1 k hb),h.len,fun i hi=>(h.at_ i hi).ag K fun k hb e=>h.zs (e▸h.z2 i k hi hb),h.z1,h.z2,h.zs,h.zl,h.lL,h.lR,hS,h.lF⟩
structure fh (H:Hp) (s bl c:Nat) (X:List Value) (gv:Value) (vs:List Value) (g:List (List Nat)) (Z:Nat->Prop) (st:cN) (F:List Bool):Prop where
 S:Bl H s (il gv (.slice (some ⟨bl,0,none⟩) st.L.length c) st.R F st.Se)
 L:Bl H bl (iL st.L++X)
 ne:s≠bl
 sl:aG H gv vs
 len:vs.length=g.length
 at_:∀i,i<g.length->aG H (vs.getD i undef) (iL (nI (g.getD i [])))
 z1:∀k,aU gv k->Z k
 z2:∀i k,i<g.length->aU (vs.getD i undef) k->Z k
 zs:¬Z s
 zl:¬Z bl
 lL:st.L.length=g.length
 lR:st.R.length=256
 lS:st.Se.length=256
 lF:F.length=256
theorem fh.ag {H H':Hp} {s bl c:Nat} {X:List Value} {gv:Value} {vs:List Value} {g:List (List Nat)} {Z Y:Nat->Prop} {st:cN} {F:List Bool} (h:fh H s bl c X gv vs g Z st F) (hk:af Y H H') (h1:¬Y s) (h2:¬Y bl) (h3:∀k,k<H.size->Z k->¬Y k):fh H' s bl c X gv vs g Z st F:=
 ⟨hk.bl h.S h1,hk.bl h.L h2,h.ne,h.sl.ag hk fun k hb=>h3 k (h.sl.bM hb) (h.z1 k hb),h.len,fun i hi=>(h.at_ i hi).ag hk fun k hb=>h3 k ((h.at_ i hi).bM hb) (h.z2 i k hi hb),h.z1,h.z2,h.zs,h.zl,h.lL,h.lR,h.lS,h.lF⟩
theorem fh.toLen {H:Hp} {s bl c:Nat} {X:List Value} {gv:Value} {vs:List Value} {g:List (List Nat)} {Z:Nat->Prop} {st:cN} {F:List Bool} (h:fh H s bl c X gv vs g Z st F):Ec g.length 256 st:=⟨h.lL,h.lR,h.lS⟩
theorem fh.Hg {H:Hp} {s bl c:Nat} {X:List Value} {gv:Value} {vs:List Value} {g:List (List Nat)} {Z:Nat->Prop} {st:cN} {F:List Bool} (h:fh H s bl c X gv vs g Z st F) {j:Nat} (hj:j<256) (x:Bool):fh (al H ⟨s,514+j,none⟩ (.bool x)) s bl c X gv vs g Z ⟨st.L,st.R,st.Se.set j x⟩ F:=by
 have K:af (fun k=>k=s) H (al H ⟨s,514+j,none⟩ (.bool x)):=(af.refl _ _).al _ (.inl rfl);have B:=h.S.al (514+j) (.bool x);rw[xz h.lR h.lF h.lS hj]at B;exact⟨B,K.bl h.L (fun e=>h.ne e.symm),h.ne,h.sl.ag K fun k hb e=>h.zs (e▸h.z1 k hb),h.len,fun i hi=>(h.at_ i hi).ag K fun k hb e=>h.zs (e▸h.z2 i k hi hb),h.z1,h.z2,h.zs,h.zl,h.lL,h.lR,by simp[h.lS],h.lF⟩
theorem fh.Hh {H:Hp} {s bl c:Nat} {X:List Value} {gv:Value} {vs:List Value} {g:List (List Nat)} {Z:Nat->Prop} {st:cN} {F:List Bool} (h:fh H s bl c X gv vs g Z st F) {j:Nat} (hj:j<256) (x:Int):fh (al H ⟨s,2+j,none⟩ (.int .i64 x)) s bl c X gv vs g Z ⟨st.L,st.R.set j x,st.Se⟩ F:=by
 have K:af (fun k=>k=s) H (al H ⟨s,2+j,none⟩ (.int .i64 x)):=(af.refl _ _).al _ (.inl rfl);have B:=h.S.al (2+j) (.int .i64 x);rw[xx h.lR hj]at B;exact⟨B,K.bl h.L (fun e=>h.ne e.symm),h.ne,h.sl.ag K fun k hb e=>h.zs (e▸h.z1 k hb),h.len,fun i hi=>(h.at_ i hi).ag K fun k hb e=>h.zs (e▸h.z2 i k hi hb),h.z1,h.z2,h.zs,h.zl,h.lL,by simp[h.lR],h.lS,h.lF⟩
theorem fh.TF {H:Hp} {s bl c:Nat} {X:List Value} {gv:Value} {vs:List Value} {g:List (List Nat)} {Z:Nat->Prop} {st:cN} {F:List Bool} (h:fh H s bl c X gv vs g Z st F) {j:Nat} (hj:j<256) (x:Bool):fh (al H ⟨s,258+j,none⟩ (.bool x)) s bl c X gv vs g Z st (F.set j x):=by
 have K:af (fun k=>k=s) H (al H ⟨s,258+j,none⟩ (.bool x)):=(af.refl _ _).al _ (.inl rfl);have B:=h.S.al (258+j) (.bool x);rw[xy h.lR h.lF hj]at B;exact⟨B,K.bl h.L (fun e=>h.ne e.symm),h.ne,h.sl.ag K fun k hb e=>h.zs (e▸h.z1 k hb),h.len,fun i hi=>(h.at_ i hi).ag K fun k hb e=>h.zs (e▸h.z2 i k hi hb),h.z1,h.z2,h.zs,h.zl,h.lL,h.lR,h.lS,by simp[h.lF]⟩
theorem fh.Le {H:Hp} {s bl c:Nat} {X:List Value} {gv:Value} {vs:List Value} {g:List (List Nat)} {Z:Nat->Prop} {st:cN} {F:List Bool} (h:fh H s bl c X gv vs g Z st F) {i:Nat} (hi:i<g.length) (x:Int):fh (al H ⟨bl,i,none⟩ (.int .i64 x)) s bl c X gv vs g Z ⟨st.L.set i x,st.R,st.Se⟩ F:=by
 have K:af (fun k=>k=bl) H (al H ⟨bl,i,none⟩ (.int .i64 x)):=(af.refl _ _).al _ (.inl rfl);have B:=h.L.al i (.int .i64 x);rw[List.set_append_left _ _ (by rw[ak,h.lL];exact hi),fU]at B;exact⟨by have:=K.bl h.S h.ne;simpa using this,B,h.ne,h.sl.ag K fun k hb e=>h.zl (e▸h.z1 k hb),h.len,fun i hi=>(h.at_ i hi).ag K fun k hb e=>h.zl (e▸h.z2 i k hi hb),h.z1,h.z2,h.zs,h.zl,by simp[h.lL],h.lR,h.lS,h.lF⟩
theorem fh.u6 {H:Hp} {s bl c:Nat} {X:List Value} {gv:Value} {vs:List Value} {g:List (List Nat)} {Z:Nat->Prop} {st:cN} {F:List Bool} (h:fh H s bl c X gv vs g Z st F) {S':List Bool} (hS:S'.length=256):fh (aA H ⟨s,514,none⟩ (bL S')) s bl c X gv vs g Z ⟨st.L,st.R,S'⟩ F:=by
 have K:af (fun k=>k=s) H (aA H ⟨s,514,none⟩ (bL S')):=(af.refl _ _).aA _ (.inl rfl);have B:=h.S.aA 514 (bL S');rw[Ch h.lR h.lF h.lS hS]at B;exact⟨B,K.bl h.L (fun e=>h.ne e.symm),h.ne,h.sl.ag K fun k hb e=>h.zs (e▸h.z1 k hb),h.len,fun i hi=>(h.at_ i hi).ag K fun k hb e=>h.zs (e▸h.z2 i k hi hb),h.z1,h.z2,h.zs,h.zl,h.lL,h.lR,hS,h.lF⟩
theorem jv.toG {H:Hp} {s bl:Nat} {gv:Value} {vs:List Value} {g:List (List Nat)} {Z:Nat->Prop} {st:cN} {F:List Bool} (h:jv H s bl gv vs g Z st F):fh H s bl g.length [] gv vs g Z st F:=
 ⟨by have:=h.S;rwa [h.lL]at this⊢,by rw[List.append_nil];exact h.L,h.ne,h.sl,h.len,h.at_,h.z1,h.z2,h.zs,h.zl,h.lL,h.lR,h.lS,h.lF⟩
theorem fh.toH {H:Hp} {s bl:Nat} {gv:Value} {vs:List Value} {g:List (List Nat)} {Z:Nat->Prop} {st:cN} {F:List Bool} (h:fh H s bl g.length [] gv vs g Z st F):jv H s bl gv vs g Z st F:=
 ⟨by have:=h.S;rwa [h.lL]at this⊢,by have:=h.L;rwa [List.append_nil]at this,h.ne,h.sl,h.len,h.at_,h.z1,h.z2,h.zs,h.zl,h.lL,h.lR,h.lS,h.lF⟩
def Ci (P:Program) (k:FuncId) (m:Nat):Prop:=∀(H:Hp) (s bl:Nat) (gv:Value) (vs:List Value) (g:List (List Nat)) (Z:Nat->Prop) (st:cN) (F:List Bool) (i:Nat),jv H s bl gv vs g Z st F->(∀i,∀j∈g.getD i [],j<256)->(∀i,(g.getD i []).length<=4096)->g.length<=256->j5 st.Se<m→
 Inv g.length 256 (Eg g) (gi st.L) (gi st.R)->i<g.length->(gi st.L i=-1\/∃j:Nat,j<256/\gi st.L i=(j:Int)/\bu st.Se j=true)→
 an P k #[.pointer (some ⟨s,0,none⟩),.int .i64 i] H fun r H'=>r=.bool (cr g F m st i).1/\jv H' s bl gv vs g Z (cr g F m st i).2 F/\af (fun k=>k=s\/k=bl) H H'
def jf (P:Program) (k:FuncId) (m:Nat):Prop:=∀(H:Hp) (s bl c:Nat) (X:List Value) (gv:Value) (vs:List Value) (g:List (List Nat)) (Z:Nat->Prop) (st:cN) (F:List Bool) (i:Nat),fh H s bl c X gv vs g Z st F->(∀i,∀j∈g.getD i [],j<256)->(∀i,(g.getD i []).length<=4096)->g.length<=256->j5 st.Se<m→
 Inv g.length 256 (Eg g) (gi st.L) (gi st.R)->i<g.length->(gi st.L i=-1\/∃j:Nat,j<256/\gi st.L i=(j:Int)/\bu st.Se j=true)→
 an P k #[.pointer (some ⟨s,0,none⟩),.int .i64 i] H fun r H'=>r=.bool (cr g F m st i).1/\fh H' s bl c X gv vs g Z (cr g F m st i).2 F/\af (fun k=>k=s\/k=bl) H H'
theorem Hi {P:Program} {ι:aJ} {k:FuncId} (hk:aq P k (Ak ι) Al 2) (hself:ι.f 147=k):∀m,jf P k m:=by
 intro m
 induction m with
 |zero=>intro H s bl c X gv vs g Z st F i _ _ _ _ h;omega
 |succ m ih=>
  intro H s bl c X gv vs g Z st F i hH hg hgl hgn hu hI hi h0;refine ah hk (args:=[_,_]) (by simp) ?_;unfold Ak Al kA kB kF kC kD ke kH kI kK kO kS kT kU kV kW ka kb kf kg kY;rw[hself];have vr:cell H ⟨s,0,none⟩=some gv:=by rw[hH.S.cell];rfl
  obtain⟨gb,go,gc,rfl,-,hgc⟩:=hH.sl.cells (by intro e;have:=hH.len;rw[e,List.length_nil]at this;omega);have hvl:=hH.len;rw[hvl]at hH hgc;have Er:=hgc i hi;have Gj:vs[i]?=some (vs.getD i undef):=by rw[List.getD_eq_getElem?_getD,List.getElem?_eq_getElem (by rw[hH.len];exact hi)];rfl
  rw[Gj]at Er;have hA:=hH.at_ i hi;have ZG:=fun k=>hH.z2 i k hi;generalize vs.getD i undef=u at Er hA ZG;generalize hl:g.getD i []=l at hA;have vu:l.length<=4096:=hl▸hgl i;have hlg:∀j∈l,j<256:=fun j hj=>hg i j (hl▸hj);simp only[go_sem,zS,↓reduceIte,Za,Zb,Zc,reduceCtorEq,ae,hvl,vr,ai,Nat.mul_one,Er,hA.ax,hA.len,ak,bh];refine⟨by omega,?_⟩;have hres:cr g F (m+1) st i=dm (cr g F m) F i l st:=by
   show dm (cr g F m) F i (g.getD i []) st=_
   rw[hl]
  rw[hres];refine aL [16,6,32,54,4,15] rfl (fun n f H'=>∃(q:Nat) (fH:cN),q<=l.length/\n=l.length -q/\f 15=.int .i64 q/\fh H' s bl c X (.slice (some ⟨gb,go,none⟩) g.length gc) vs g Z fH F/\dm (cr g F m) F i (l.drop q) fH=dm (cr g F m) F i l st∧
    fH.L=st.L/\fH.R=st.R/\(∀j,bu st.Se j=true->bu fH.Se j=true)/\j5 fH.Se<=m/\af (fun k=>k=s\/k=bl) H H') l.length
   ⟨0,st,by omega,by omega,by simp only[go_sem,zS,↓reduceIte,Za,Zb,Zc,reduceCtorEq,ae];rfl,hH,by simp,rfl,rfl,fun j h=>h,by omega,af.refl _ _⟩ ?_
  rintro n f2 H1 ⟨q,st1,hq,rfl,hf,nk,Hj,CQ,Vp,hm1,hu1,K1⟩;simp only[go_sem,zS,↓reduceIte,Za,Zb,Zc,reduceCtorEq,ae]at hf;simp only[go_sem,zS,↓reduceIte,Za,Zb,Zc,reduceCtorEq,hf];refine aC (fun hlt=>?_) (fun gx=>?_)
  ·have hlt:q<l.length:=by omega
   have hA1:aG H1 u (iL (nI l)):=hA.ag K1 fun k hb e=>by
    rcases e with e|e
    ·subst e;exact hH.zs (ZG _ hb)
    ·subst e;exact hH.zl (ZG _ hb)
   obtain⟨lb,lo,lc,rfl,-,hlc⟩:=hA1.cells (by intro e;have h:=congrArg List.length e;rw[ak,bh,List.length_nil]at h;omega);rw[ak,bh]at hlc;have Cj:=hlc q hlt;rw[bW _ _ (by rw[bh];exact hlt),yJ _ _ hlt]at Cj;have TG:l.drop q=l.getD q 0::l.drop (q+1):=by
    rw[List.drop_eq_getElem_cons hlt,List.getD_eq_getElem?_getD,List.getElem?_eq_getElem hlt];rfl
   rw[TG]at Hj;have iD:l.getD q 0<256:=hlg _ (by rw[List.getD_eq_getElem?_getD,List.getElem?_eq_getElem hlt];exact List.getElem_mem _);have Ro:Eg g i (l.getD q 0):=by
    unfold Eg;rw[hl,List.getD_eq_getElem?_getD,List.getElem?_eq_getElem hlt];exact List.getElem_mem _
   generalize l.getD q 0=j at*;have cS:cell H1 ⟨s,514+j,none⟩=some (.bool (bu st1.Se j)):=by rw[nk.S.cell,TE nk.lR nk.lF nk.lS iD]
   have cF:cell H1 ⟨s,258+j,none⟩=some (.bool (bu F j)):=by rw[nk.S.cell,M3 nk.lR nk.lF iD]
   have cR:cell H1 ⟨s,2+j,none⟩=some (.int .i64 (gi st1.R j)):=by rw[nk.S.cell,Cg nk.lR iD]
   have next:∀st2 H2,fh H2 s bl c X (.slice (some ⟨gb,go,none⟩) g.length gc) vs g Z st2 F->dm (cr g F m) F i (l.drop (q+1)) st2=dm (cr g F m) F i l st->st2.L=st.L->st2.R=st.R->(∀j,bu st.Se j=true->bu st2.Se j=true)->j5 st2.Se<=m->af (fun k=>k=s\/k=bl) H1 H2→
     ∃n',n'<l.length -q/\∃(q':Nat) (fH:cN),q'<=l.length/\n'=l.length -q'/\((q+1:Nat)=q')/\fh H2 s bl c X (.slice (some ⟨gb,go,none⟩) g.length gc) vs g Z fH F/\dm (cr g F m) F i (l.drop q') fH=dm (cr g F m) F i l st∧
      fH.L=st.L/\fH.R=st.R/\(∀j,bu st.Se j=true->bu fH.Se j=true)/\j5 fH.Se<=m/\af (fun k=>k=s\/k=bl) H H2:=fun st2 H2 a b c d e f2 K=>
    ⟨_,by omega,q+1,st2,by omega,rfl,rfl,a,b,c,d,e,f2,K1.trans K⟩
   by_cases Ee:(bu st1.Se j||bu F j)=true
   ·have rV:dm (cr g F m) F i (l.drop (q+1)) st1=dm (cr g F m) F i l st:=by
     rw[<-Hj];unfold bu at Ee;conv=>rhs;unfold dm
     rw[if_pos Ee]
    obtain⟨n',a1,q',fH,a2,a3,a4,a5⟩:=next st1 H1 nk rV CQ Vp hm1 hu1 (af.refl _ _)
    cases AX:bu st1.Se j with
    |true=>
     rw[AX]at cS;simp(disch:=omega)only[go_sem,zS,↓reduceIte,Za,Zb,Zc,reduceCtorEq,ae,hf,ak,bh,ai,Nat.mul_one,Cj,cS,IntWalk.i64_in];exact⟨by omega,by omega,n',a1,q',fH,a2,a3,by rw[<-a4];simp,a5⟩
    |false=>
     rw[AX]at cS Ee;rw[Bool.false_or]at Ee;rw[Ee]at cF;simp(disch:=omega)only[go_sem,zS,↓reduceIte,Za,Zb,Zc,reduceCtorEq,ae,hf,ak,bh,ai,Nat.mul_one,Cj,cS,cF,IntWalk.i64_in];exact⟨by omega,by omega,by omega,n',a1,q',fH,a2,a3,by rw[<-a4];simp,a5⟩
   ·have AX:bu st1.Se j=false:=by cases h:bu st1.Se j<;>simp_all
    have ZH:bu F j=false:=by cases h:bu F j<;>simp_all
    have TH:¬(st1.Se.getD j true||F.getD j true)=true:=by unfold bu at AX ZH;rw[AX,ZH];simp
    rw[AX]at cS;rw[ZH]at cF;have ZI:=nk.S.bk (o:=514+j) (by rw[cT nk.lR nk.lF nk.lS];omega);have IK:=nk.Hg iD true;have K2:af (fun k=>k=s\/k=bl) H1 (al H1 ⟨s,514+j,none⟩ (.bool true)):=(af.refl _ _).al _ (.inl (.inl rfl));simp only[go_sem,zS,↓reduceIte,Za,Zb,Zc,reduceCtorEq,hf,ak,bh,ai,Nat.mul_one,Cj,cS,cF];refine⟨by omega,by omega,by omega,by omega,ZI.2,?_⟩;generalize al H1 ⟨s,514+j,none⟩ (.bool true)=H2 at IK K2⊢;rw[ae];have ZJ:cell H2 ⟨s,2+j,none⟩=some (.int .i64 (gi st1.R j)):=by rw[IK.S.cell,Cg IK.lR iD]
    have fin:∀(H3:Hp) (nx:cN),fh H3 s bl c X (.slice (some ⟨gb,go,none⟩) g.length gc) vs g Z nx F->af (fun k=>k=s\/k=bl) H1 H3->dm (cr g F m) F i l st=(true,⟨nx.L.set i (j:Int),nx.R.set j (i:Int),nx.Se⟩)→
      cell H3 ⟨s,1,none⟩=some (.slice (some ⟨bl,0,none⟩) g.length c)/\((cell H3 ⟨bl,i,none⟩).isSome=true/\j8 H3 ⟨bl,i,none⟩=false)/\af (fun k=>k=s\/k=bl) H3 (al H3 ⟨bl,i,none⟩ (.int .i64 (j:Int)))∧
      ((cell (al H3 ⟨bl,i,none⟩ (.int .i64 (j:Int))) ⟨s,2+j,none⟩).isSome=true/\j8 (al H3 ⟨bl,i,none⟩ (.int .i64 (j:Int))) ⟨s,2+j,none⟩=false)∧
      af (fun k=>k=s\/k=bl) (al H3 ⟨bl,i,none⟩ (.int .i64 (j:Int))) (al (al H3 ⟨bl,i,none⟩ (.int .i64 (j:Int))) ⟨s,2+j,none⟩ (.int .i64 (i:Int)))∧
      fh (al (al H3 ⟨bl,i,none⟩ (.int .i64 (j:Int))) ⟨s,2+j,none⟩ (.int .i64 (i:Int))) s bl c X (.slice (some ⟨gb,go,none⟩) g.length gc) vs g Z (dm (cr g F m) F i l st).2 F∧
      af (fun k=>k=s\/k=bl) H (al (al H3 ⟨bl,i,none⟩ (.int .i64 (j:Int))) ⟨s,2+j,none⟩ (.int .i64 (i:Int))):=by
     intro H3 nx h3 K3 he;have h4:=h3.Le hi (j:Int);have h5:=h4.Hh iD (i:Int);have k4:af (fun k=>k=s\/k=bl) H3 (al H3 ⟨bl,i,none⟩ (.int .i64 (j:Int))):=(af.refl _ _).al _ (.inl (.inr rfl));have k5:af (fun k=>k=s\/k=bl) (al H3 ⟨bl,i,none⟩ (.int .i64 (j:Int))) (al (al H3 ⟨bl,i,none⟩ (.int .i64 (j:Int))) ⟨s,2+j,none⟩ (.int .i64 (i:Int))):=(af.refl _ _).al _ (.inl (.inl rfl));rw[he];refine⟨by rw[h3.S.cell,h3.lL];rfl,h3.L.bk (o:=i) (by rw[List.length_append,ak,h3.lL];omega),k4,h4.S.bk (o:=2+j) (by rw[cT h4.lR h4.lF h4.lS];omega),k5,h5,((K1.trans K3).trans k4).trans k5⟩
    by_cases hfr:gi st1.R j<0
    ·have rV:dm (cr g F m) F i l st=(true,⟨st1.L.set i (j:Int),st1.R.set j (i:Int),st1.Se.set j true⟩):=by
      rw[<-Hj];conv=>lhs;unfold dm
      rw[if_neg TH,if_pos (show st1.R.getD j (-1)<0 from hfr)]
     obtain⟨f1,ZK,f3,f4,f5,f6,f7⟩:=fin H2 ⟨st1.L,st1.R,st1.Se.set j true⟩ IK K2 rV;simp only[go_sem,zS,↓reduceIte,Za,Zb,Zc,reduceCtorEq,ae,ZJ,hfr];refine⟨by omega,?_⟩;refine bC (fun k=>k=s\/k=bl) ?_;simp only[go_sem,zS,↓reduceIte,Za,Zb,Zc,reduceCtorEq,ae,f1];exact⟨af.refl _ _,by omega,ZK,f3,by omega,f4,f5,by rw[rV],f6,f7⟩
    ·have ZL:¬st1.R.getD j (-1)<0:=hfr;obtain⟨a,ha,Q0,Et⟩:∃a<g.length,gi st1.R j=(a:Int)/\gi st1.L a=(j:Int):=by
      rw[CQ,Vp]at*;rcases hI.r j iD with h|⟨a,ha,e1,e2⟩
      ·omega
      ·exact⟨a,ha,e1,e2⟩
     have hRn:(st1.R.getD j (-1)).toNat=a:=by unfold gi at Q0;rw[Q0];simp
     have hn0:¬((a:Int)<0):=by omega
     have hus:j5 (st1.Se.set j true)<m:=Nat.lt_of_lt_of_le (sP (by rw[nk.lS];exact iD) AX) hu1;have Rc:Inv g.length 256 (Eg g) (gi st1.L) (gi st1.R):=by rw[CQ,Vp];exact hI
     have h01:gi st1.L a=-1\/∃j':Nat,j'<256/\gi st1.L a=(j':Int)/\bu (st1.Se.set j true) j'=true:=.inr ⟨j,iD,Et,by rw[lZ,nk.lS];simp[iD]⟩;have p8:=ih H2 s bl c X _ vs g Z ⟨st1.L,st1.R,st1.Se.set j true⟩ F a IK hg hgl hgn hus Rc ha h01;obtain⟨hY,hN⟩:=sT (n:=g.length) (F:=F) hg m ⟨st1.L,st1.R,st1.Se.set j true⟩ a hus IK.toLen Rc ha (by
      rcases h01 with h|⟨j',h1,h2,h3⟩
      ·exact .inl h
      ·exact .inr ⟨j',h1,h2,h3⟩)
     have qs:dm (cr g F m) F i l st=if(cr g F m ⟨st1.L,st1.R,st1.Se.set j true⟩ a).1=true then(true,⟨(cr g F m ⟨st1.L,st1.R,st1.Se.set j true⟩ a).2.L.set i (j:Int),(cr g F m ⟨st1.L,st1.R,st1.Se.set j true⟩ a).2.R.set j (i:Int),(cr g F m ⟨st1.L,st1.R,st1.Se.set j true⟩ a).2.Se⟩)else dm (cr g F m) F i (l.drop (q+1)) (cr g F m ⟨st1.L,st1.R,st1.Se.set j true⟩ a).2:=by
      rw[<-Hj];conv=>lhs;unfold dm
      rw[if_neg TH,if_neg ZL,hRn]
     rw[Q0]at ZJ;simp only[go_sem,zS,↓reduceIte,Za,Zb,Zc,reduceCtorEq,ae,ZJ,hn0];refine⟨by omega,by omega,?_⟩;refine p8.mono ?_;rintro r H3 ⟨rfl,P9,K3⟩;generalize cr g F m ⟨st1.L,st1.R,st1.Se.set j true⟩ a=R at P9 qs hY hN;obtain⟨rb,nx⟩:=R;simp only at P9 qs hY hN
     cases rb with
     |true=>
      rw[if_pos rfl]at qs;obtain⟨f1,ZK,f3,f4,f5,f6,f7⟩:=fin H3 nx P9 (K2.trans K3) qs;simp only[go_sem,zS,↓reduceIte,Za,Zb,Zc,reduceCtorEq,ae];refine bC (fun k=>k=s\/k=bl) ?_;simp only[go_sem,zS,↓reduceIte,Za,Zb,Zc,reduceCtorEq,ae,f1];exact⟨af.refl _ _,by omega,ZK,f3,by omega,f4,f5,by rw[qs],f6,f7⟩
     |false=>
      rw[if_neg (by simp)]at qs;obtain⟨hn,_⟩:=hN rfl;have e1:nx.L=st1.L:=hn.L;have e2:nx.R=st1.R:=hn.R;have mono:∀j',bu st1.Se j'=true->bu nx.Se j'=true:=fun j' h=>hn.mono j' (by
       simp only;rw[lZ];split
       ·rfl
       ·exact h)
      obtain⟨n',a1,q',fH,a2,a3,a4,a5⟩:=next nx H3 P9 qs.symm (e1.trans CQ) (e2.trans Vp) (fun j' h=>mono j' (hm1 j' h)) (Nat.le_trans (vZ (by rw[P9.lS,nk.lS]) mono) hu1) (K2.trans K3)
      simp(disch:=omega)only[go_sem,zS,↓reduceIte,Za,Zb,Zc,reduceCtorEq,ae,hf,IntWalk.i64_in];exact⟨n',a1,q',fH,a2,a3,by rw[<-a4];simp,a5⟩
  ·have:q=l.length:=by omega
   subst this;have rV:dm (cr g F m) F i l st=(false,st1):=by
    rw[<-Hj,List.drop_length];rfl
   rw[rV];exact⟨rfl,nk,K1⟩
theorem jf.toH {P:Program} {k:FuncId} {m:Nat} (h:jf P k m):Ci P k m:=by
 intro H s bl gv vs g Z st F i hH h1 h2 h3 h4 h5 h6 h7;refine(h H s bl _ _ gv vs g Z st F i hH.toG h1 h2 h3 h4 h5 h6 h7).mono ?_;rintro r H' ⟨a,b,c⟩;exact⟨a,b.toH,c⟩
end Go.Mg
namespace Go.Mg
open Go Go.RowKit
def qt (ι:aJ):S:=
 kY [kC 2 (.pointer .none)] (kY [kA 7 0,kL 8 7,kc 9 (.nq (ι.t 26) 1 8 #[.int .i64 0] (.t 8) (.t 8)),kU 10 (.m (.jA Cf [(1,(1,.t 9))])),kc 11 (.box (ι.t 145) (.t 10)),kB 3 11] (.seq (kY [kV 12 (.mv (.v 0)),kO 13 12,kC 14 (.int .i64 0)] (.blk 0 (.loop (kY [kH 15 14 13] (.seq (.ite (.v 15) .skip (.exit 0)) (.seq (.blk 1 (kY [kA 16 14,kK 17 1 12 14,kN 18 1 17,kd 5 (.new (ι.t 128) #[kZ]),kB 4 16,kf (.stn 1 (.v 5) (.t 18))] (.seq (.dr (kW 19 (.mv (.v 3)) (kW 20 (.mv (.v 3)) (kW 21 (.nil (.t 20)) (kW 22 (.fa 0 (.t 21)) (kW 24 (.m (.ldn 1 (.v 5))) (ka 23 (.rd (.ld (.t 22))) (ka 25 (kg (ι.f 139) [.t 24]) (ka 26 (.cj (ι.t 138) 1 1 [.t 25]) (ka 27 (.app false (ι.t 138) 1 24 #[kZ] (.t 23) (.t 26)) (kW 28 (.nil (.t 19)) (kW 29 (.fa 0 (.t 28)) (kb (.st (.t 29) (.t 27)) .done .wnil))) .wnil) .wnil) .wnil) (ka 25 (kg (ι.f 139) [.t 24]) (ka 23 (.rd (.ld (.t 22))) (ka 26 (.cj (ι.t 138) 1 1 [.t 25]) (ka 27 (.app false (ι.t 138) 1 24 #[kZ] (.t 23) (.t 26)) (kW 28 (.nil (.t 19)) (kW 29 (.fa 0 (.t 28)) (kb (.st (.t 29) (.t 27)) .done .wnil))) .wnil) .wnil) (ka 26 (.cj (ι.t 138) 1 1 [.t 25]) (ka 23 (.rd (.ld (.t 22))) (ka 27 (.app false (ι.t 138) 1 24 #[kZ] (.t 23) (.t 26)) (kW 28 (.nil (.t 19)) (kW 29 (.fa 0 (.t 28)) (kb (.st (.t 29) (.t 27)) .done .wnil))) .wnil) .wnil) .wnil)) .wnil)))))))) (.reg [kA 30 3,kU 31 (.nil (.t 30)),kU 32 (.fa 1 (.t 31)),kD 33 32,kA 34 4,kI 35 1 33 34,kf (.st (.t 35) (.c (.int .i64 (-1))))])))) (.reg [ke 36 14,kB 14 36]))))))) (.seq (kY [kC 37 (.int .i64 0)] (.blk 2 (.loop (kY [kV 38 (.cm .lss .i64 (.v 37) (.c (.int .i64 256)))] (.seq (.ite (.v 38) .skip (.exit 2)) (.seq (.blk 3 (kY [kA 39 37,kB 6 39] (.reg [kA 40 3,kA 41 6,kU 42 (.nil (.t 40)),kU 43 (.fa 2 (.t 42)),kU 44 (.ia 256 1 (.t 43) (.t 41)),kf (.st (.t 44) (.c (.int .i64 (-1))))]))) (.reg [ke 45 37,kB 37 45]))))))) (kY [kA 46 3,kB 2 46] .ret))))
def qu:List RV:=[.t 2]
def u9 (ι:aJ):S:=
 kY [kA 3 0,kU 4 (.nil (.t 3)),kU 5 (.fa 0 (.t 4)),kD 6 5,kV 7 (.m (.lenl (.t 6))),kC 8 (.int .i64 0)] (.blk 0 (.loop (kY [kH 9 8 7] (.seq (.ite (.v 9) .skip (.exit 0)) (.seq (.blk 1 (kY [kA 10 8,kB 2 10] (kY [kA 11 0,kU 12 (.m (.jA (Array.replicate 256 (.bool false)) [])),kU 13 (.nil (.t 11)),kU 14 (.fa 514 (.t 13)),kf (.stn 256 (.t 14) (.t 12))] (.reg [kA 15 0,kA 16 2,kc 17 (kg (ι.f 147) [.t 15,.t 16])])))) (.reg [ke 18 8,kB 8 18]))))))
def vb:List RV:=[]
def lO (P:Program) (k:FuncId):Prop:=∀(H:Hp) (s bl:Nat) (gv:Value) (vs:List Value) (g:List (List Nat)) (Z:Nat->Prop) (st:cN),jv H s bl gv vs g Z st (List.replicate 256 false)->(∀i,∀j∈g.getD i [],j<256)->(∀i,(g.getD i []).length<=4096)->g.length<=256→
 st.L=List.replicate g.length (-1)->st.R=List.replicate 256 (-1)→
 an P k #[.pointer (some ⟨s,0,none⟩)] H fun _ H'=>∃L R Se,jv H' s bl gv vs g Z ⟨L,R,Se⟩ (List.replicate 256 false)/\k7 g.length 256 (Eg g) g.length L R/\af (fun k=>k=s\/k=bl) H H'
variable {P:Program} {ι:aJ} {k:FuncId}
theorem Hk (hk:aq P k (u9 ι) vb 1) (ha:Ci P (ι.f 147) 257):lO P k:=by
 intro H s bl gv vs g Z st hH hg hgl hgn hL hR;refine ah hk (args:=[_]) (by simp) ?_;unfold u9 vb kA kB kC kD ke kH kU kV kc kf kg kY;have vr:cell H ⟨s,0,none⟩=some gv:=by rw[hH.S.cell];rfl
 simp only[go_sem,zS,↓reduceIte,Za,Zb,Zc,reduceCtorEq,ae,vr,hH.sl.ax,hH.sl.len,hH.len];refine aL [9,2,8] rfl (fun n f H'=>∃(i:Nat) (L R:List Int) (Se:List Bool),i<=g.length/\n=g.length -i/\f 8=.int .i64 i/\jv H' s bl gv vs g Z ⟨L,R,Se⟩ (List.replicate 256 false)/\k7 g.length 256 (Eg g) i L R/\af (fun k=>k=s\/k=bl) H H') g.length
  ⟨0,st.L,st.R,st.Se,by omega,by omega,by simp only[go_sem,zS,↓reduceIte,Za,Zb,Zc,reduceCtorEq,ae];rfl,hH,by rw[hL,hR];exact k7.start _ _ _,af.refl _ _⟩ ?_
 rintro n f H1 ⟨i,L,R,Se,hi,rfl,hf,nk,hM,K1⟩;simp only[go_sem,zS,↓reduceIte,Za,Zb,Zc,reduceCtorEq,ae]at hf;simp only[go_sem,zS,↓reduceIte,Za,Zb,Zc,reduceCtorEq,hf];refine aC (fun hlt=>?_) (fun gx=>?_)
 ·have hlt:i<g.length:=by omega
  have TI:∀r:A->Value,eN r (Array.replicate 256 (Value.bool false)) []=Array.replicate 256 (Value.bool false):=fun r=>rfl;have GX:(Array.replicate 256 (Value.bool false)).toList=bL (List.replicate 256 false):=by simp[bL]
  have ek:bQ (Array.replicate 256 (Value.bool false)):=by
   intro y hy;rw[Array.toList_replicate]at hy;rw[List.eq_of_mem_replicate hy];rfl
  have hok:=nk.S.bK (o:=514) (n:=256) (by rw[cT nk.lR nk.lF nk.lS];omega);have IK:=nk.u6 (S':=List.replicate 256 false) (by simp);have K2:af (fun k=>k=s\/k=bl) H1 (aA H1 ⟨s,514,none⟩ (bL (List.replicate 256 false))):=(af.refl _ _).aA _ (.inl (.inl rfl));simp only[go_sem,zS,↓reduceIte,Za,Zb,Zc,reduceCtorEq,hf,TI,aN,GX,eT,cM,hok,ek,Array.size_replicate];refine⟨trivial,?_⟩;generalize aA H1 ⟨s,514,none⟩ (bL (List.replicate 256 false))=H2 at IK K2⊢;rw[ae];simp only[go_sem,zS,↓reduceIte,Za,Zb,Zc,reduceCtorEq,hf];have hu:=AZ 256;refine(ha H2 s bl gv vs g Z ⟨L,R,List.replicate 256 false⟩ (List.replicate 256 false) i IK hg hgl hgn (by simp only;omega) hM.inv hlt (.inl (hM.out i (Nat.le_refl _) hlt))).mono ?_;rintro r H3 ⟨rfl,P9,K3⟩;have hM3:=hM.step hg hlt 257 (by omega);simp(disch:=omega)only[go_sem,zS,↓reduceIte,Za,Zb,Zc,reduceCtorEq,ae,hf,IntWalk.i64_in];exact⟨g.length -(i+1),by omega,i+1,_,_,_,by omega,rfl,by simp,P9,hM3,(K1.trans K2).trans K3⟩
 ·have:i=g.length:=by omega
  subst this;exact⟨L,R,Se,nk,hM,K1⟩
def Hl:List Value:=.slice none 0 0::.slice none 0 0::(List.replicate 256 (.int .i64 0)++List.replicate 512 (.bool false))
theorem vd:Cf.toList=Hl:=rfl
theorem Hm:Hl=il (.slice none 0 0) (.slice none 0 0) (List.replicate 256 0) (List.replicate 256 false) (List.replicate 256 false):=by
 unfold Hl il;rw[iL,bL,List.map_replicate,List.map_replicate,List.replicate_append_replicate]
theorem Rn.elt {H:Hp} {v:Value} {ps:List (Nat->Bool)} {Z:Nat->Prop} {vs:List Value} (h:Rn H v ps Z vs) {i:Nat} (hi:i<ps.length):∃b o c,v=.slice (some ⟨b,o,none⟩) ps.length c/\aR H ⟨b,o+i,none⟩ 1=some #[vs.getD i undef]/\cell H ⟨b,o+i,none⟩=some (vs.getD i undef):=by
 obtain⟨b,o,c,rfl,-,hc⟩:=h.sl.cells (by intro e;have:=h.len;rw[e,List.length_nil]at this;omega);rw[h.len]at hc;have hci:=hc i hi;have Gj:vs[i]?=some (vs.getD i undef):=by rw[List.getD_eq_getElem?_getD,List.getElem?_eq_getElem (by rw[h.len];exact hi)];rfl
 rw[Gj]at hci;refine⟨b,o,c,by rw[h.len],?_,hci⟩;obtain⟨C,T,z,hb,hz⟩:∃C T z,H[b]?=some (.cells C T z)/\C[o+i]?=some (vs.getD i undef):=by
  simp only[cell]at hci
  split at hci
  ·rename_i C T z hb;exact⟨C,T,z,hb,by simpa using hci⟩
  ·cases hci
 have yQ:=(Array.getElem?_eq_some_iff.1 hz).1;simp only[aR,hb,Option.isSome_none,Bool.false_eq_true,if_false];rw[if_pos (by omega)]
 congr 1
 apply Array.ext';rw[Array.toList_extract,List.extract_eq_take_drop];have:o+i<C.toList.length:=by simpa using yQ
 rw[List.drop_eq_getElem_cons this];have e1:o+i+1 -(o+i)=1:=by omega
 rw[e1];have:=(Array.getElem?_eq_some_iff.1 hz).2;simpa using this
def oa (P:Program) (ι:aJ) (k:FuncId):Prop:=∀(ps:List (Nat->Bool)) (v:Value) (Z:Nat->Prop) (H:Hp),br ι H->Hd H v ps Z->ps.length<=100000→
 an P k #[v] H fun r H'=>∃s bl gv vs Se,r=.pointer (some ⟨s,0,none⟩)/\jv H' s bl gv vs (ps.map aD) (fun k=>H.size<=k/\k≠s/\k≠bl) ⟨List.replicate ps.length (-1),List.replicate 256 (-1),Se⟩ (List.replicate 256 false)/\af (fun _=>False) H H'/\H.size<=s/\H.size<=bl
theorem gM (ps:List (Nat->Bool)) (i:Nat) (hi:i<ps.length):(ps.map aD).getD i []=aD (ps.getD i fun _=>false):=by
 simp[List.getD_eq_getElem?_getD,hi]
theorem DD (hk:aq P k (qt ι) qu 1) (hl:gC P ι (ι.f 139)):oa P ι k:=by
 intro ps v Z H hT ⟨gs,hv⟩ hn;refine ah hk (args:=[_]) (by simp) ?_;unfold qt qu kA kB kC kD ke kH kI kK kL kN kO kU kV kW ka kb kc kd kf kg kY kZ;simp only[go_sem,zS,↓reduceIte,Za,Zb,Zc,reduceCtorEq,hv.sl.ax,hv.sl.len,hv.len,ai];refine⟨⟨by omega,by omega,by unfold maxLen;omega⟩,?_⟩;refine aF fun H1 bl e1 z1 B1 K1=>?_;simp only[go_sem,zS,↓reduceIte,Za,Zb,Zc,reduceCtorEq,zF];refine⟨by decide,?_⟩;refine ay fun H2 s e2 z2 B2 K2=>?_;have s1:=K1.size;have s2:=K2.size;have B1:Bl H2 bl (iL (List.replicate ps.length 0)):=by
  have:=K2.bl B1 (by simp);rw[cx,oF]at this;exact this
 have B2:Bl H2 s (il (.slice none 0 0) (.slice (some ⟨bl,0,none⟩) ps.length ps.length) (List.replicate 256 0) (List.replicate 256 false) (List.replicate 256 false)):=by
  have:=B2;rw[yb,vd,Hm]at this;exact this
 have gz:=K1.trans K2;have hv2:=hv.ag gz (fun _ _ _ h=>h);simp only[go_sem,zS,↓reduceIte,Za,Zb,Zc,reduceCtorEq,ae,hv2.sl.ax,hv2.sl.len,hv.len];have Zn:∀k,Z k->k<H.size\/True:=fun _ _=>.inr trivial;refine eQ ?_ ?_ (Q:=fun e f H'=>e=.x 0/\f 3=.pointer (some ⟨s,0,none⟩)/\∃gv vs,jv H' s bl gv vs (ps.map aD) (fun k=>H.size<=k/\k≠s/\k≠bl) ⟨List.replicate ps.length (-1),List.replicate 256 0,List.replicate 256 false⟩ (List.replicate 256 false)/\af (fun _=>False) H H')
 ·rintro e f H3 ⟨rfl,j6,gv,vs,hS,K3⟩;simp only[go_sem,zS,↓reduceIte,Za,Zb,Zc,reduceCtorEq,j6];refine eQ ?_ ?_ (Q:=fun e f H'=>e=.x 2/\f 3=.pointer (some ⟨s,0,none⟩)/\jv H' s bl gv vs (ps.map aD) (fun k=>H.size<=k/\k≠s/\k≠bl) ⟨List.replicate ps.length (-1),List.replicate 256 (-1),List.replicate 256 false⟩ (List.replicate 256 false)/\af (fun _=>False) H H')
  ·rintro e f H4 ⟨rfl,j6,vw,K4⟩;simp only[go_sem,zS,↓reduceIte,Za,Zb,Zc,reduceCtorEq,ae,j6];exact⟨s,bl,gv,vs,_,rfl,vw,K4,by omega,by omega⟩
  ·refine aL [38,6,37] rfl (fun n f H'=>∃i:Nat,i<=256/\n=256 -i/\f 37=.int .i64 i/\f 3=.pointer (some ⟨s,0,none⟩)/\jv H' s bl gv vs (ps.map aD) (fun k=>H.size<=k/\k≠s/\k≠bl) ⟨List.replicate ps.length (-1),List.replicate i (-1)++List.replicate (256 -i) 0,List.replicate 256 false⟩ (List.replicate 256 false)/\af (fun _=>False) H H') 256
    ⟨0,by omega,by omega,by simp only[go_sem,zS,↓reduceIte,Za,Zb,Zc,reduceCtorEq,ae];rfl,by simp only[go_sem,zS,↓reduceIte,Za,Zb,Zc,reduceCtorEq,ae,j6],by simpa using hS,K3⟩ ?_
   rintro n f4 H4 ⟨i,hi,rfl,hf,j6,vw,K4⟩;simp only[go_sem,zS,↓reduceIte,Za,Zb,Zc,reduceCtorEq,ae]at hf j6;simp only[go_sem,zS,↓reduceIte,Za,Zb,Zc,reduceCtorEq,ae,hf,j6];refine aC (fun hlt=>?_) (fun gx=>?_)
   ·have hlt:i<256:=by omega
    have hst:=vw.S.bk (o:=2+i) (by rw[cT vw.lR vw.lF vw.lS];omega);have h5:=vw.Hh hlt (-1);have hset:(List.replicate i (-1:Int)++List.replicate (256 -i) 0).set i (-1)=List.replicate (i+1) (-1)++List.replicate (256 -(i+1)) 0:=by
     rw[List.set_append_right _ _ (by simp),List.length_replicate,Nat.sub_self];have:256 -i=(256 -(i+1))+1:=by omega
     rw[this,List.replicate_succ,List.replicate_succ'];simp
    simp only[hset]at h5;have K5:af (fun k=>k=s) H4 (al H4 ⟨s,2+i,none⟩ (.int .i64 (-1))):=(af.refl _ _).al _ (.inl rfl);simp(disch:=omega)only[go_sem,zS,↓reduceIte,Za,Zb,Zc,reduceCtorEq,ae,hf,j6,ai,Nat.mul_one,hst,IntWalk.i64_in];exact⟨by omega,256 -(i+1),by omega,i+1,by omega,rfl,by simp,h5,K4.bD K5 (by omega)⟩
   ·have:i=256:=by omega
    subst this;have ZM:jv H4 s bl gv vs (ps.map aD) (fun k=>H.size<=k/\k≠s/\k≠bl) ⟨List.replicate ps.length (-1),List.replicate 256 (-1),List.replicate 256 false⟩ (List.replicate 256 false):=by
     rw[Nat.sub_self,List.replicate_zero,List.append_nil]at vw;exact vw
    exact⟨ZM,K4⟩
 ·refine aL [15,5,4,14] rfl (fun n f H'=>∃(i:Nat) (gv:Value) (vs:List Value),i<=ps.length/\n=ps.length -i/\f 14=.int .i64 i∧
   Bl H' s (il gv (.slice (some ⟨bl,0,none⟩) ps.length ps.length) (List.replicate 256 0) (List.replicate 256 false) (List.replicate 256 false))/\Bl H' bl (iL (List.replicate i (-1)++List.replicate (ps.length -i) 0))∧
   bY H' gv vs/\vs.length=i/\(∀q,q<i->aG H' (vs.getD q undef) (iL (nI (aD (ps.getD q fun _=>false)))))/\(∀k,az gv k->H.size<=k/\k≠s/\k≠bl)/\(∀q k,q<i->aU (vs.getD q undef) k->H.size<=k/\k≠s/\k≠bl/\¬az gv k)/\af (fun _=>False) H H') ps.length
   ⟨0,.slice none 0 0,[],by omega,by omega,by simp only[go_sem,zS,↓reduceIte,Za,Zb,Zc,reduceCtorEq,ae];rfl,B2,by simpa using B1,bY.nil _,rfl,fun q h=>by omega,fun k h=>h.elim,fun q k h=>by omega,gz⟩ ?_
  rintro n f H3 ⟨i,gv,vs,hi,rfl,hf,B3,L3,O3,hvl,hat,ho,hz,K3⟩;simp only[go_sem,zS,↓reduceIte,Za,Zb,Zc,reduceCtorEq,ae]at hf;simp only[go_sem,zS,↓reduceIte,Za,Zb,Zc,reduceCtorEq,hf];refine aC (fun hlt=>?_) (fun gx=>?_)
  ·have hlt:i<ps.length:=by omega
   have s3:=K3.size;have Ek:=hv.ag K3 (fun _ _ _ h=>h);obtain⟨gb,go,gc,rfl,hld,hcl⟩:=Ek.elt hlt;have hS:=Ek.at_ i hlt;generalize gs.getD i undef=u at hld hcl hS;simp only[go_sem,zS,↓reduceIte,Za,Zb,Zc,reduceCtorEq,hf,aB,hld,ai,Nat.mul_one];refine⟨by omega,?_⟩;refine ay fun H4 b4 e4 z4 B4 K4=>?_;have s4:=K4.size;have jS:bQ #[u]:=by obtain⟨uv,W,e,hw⟩:=hS;cases e;exact hw.sl.one
   have P8:=B4.bK (o:=0) (n:=1) (by simp);have B5:=B4.aA 0 [u];have B5:Bl (aA H4 ⟨b4,0,none⟩ [u]) b4 [u]:=by simpa[iE]using B5
   have K5:af (fun k=>k=b4) H4 (aA H4 ⟨b4,0,none⟩ [u]):=(af.refl _ _).aA _ (.inl rfl);simp only[go_sem,zS,↓reduceIte,Za,Zb,Zc,reduceCtorEq,zF,P8,jS];generalize aA H4 ⟨b4,0,none⟩ [u]=H5 at B5 K5⊢;rw[ae];have s5:=K5.size;have IL:af (fun k=>k=b4) H3 H5:=K4.any.trans K5;have hb4:H3.size<=b4:=by omega
   have IH:af (fun _=>False) H H5:=(K3.trans K4).bD K5 (by omega);have S5:aS H5 (.agg #[u]) (ps.getD i fun _=>false):=hS.ag IL (fun k hb e=>by have:=hS.bM hb;omega);have JK:=IL.bl B3 (by have:=B3.lt;omega);have L35:=IL.bl L3 (by have:=L3.lt;omega);have O5:bY H5 gv vs:=O3.ag IL (fun k hb e=>by have:=O3.bM hb;omega);have at5:∀q,q<i->aG H5 (vs.getD q undef) (iL (nI (aD (ps.getD q fun _=>false)))):=fun q hq=>(hat q hq).ag IL (fun k hb e=>by have:=(hat q hq).bM hb;omega);have Ts:s≠b4:=by have:=B3.lt;omega
   have ZN:∀k,az gv k->k≠b4:=fun k h e=>by have:=O3.bM h;omega
   have T5:=hT.ag IH;have Hn:=hl _ _ H5 T5 S5;rw[JP]at Hn
   -- what comes behind the list
   have tail:∀(H6 H7:Hp) (r:Value) (b7:Nat),bY H6 r (iL (nI (aD (ps.getD i fun _=>false))))->(∀k,az r k->H5.size<=k)->af (fun _=>False) H5 H6->af (fun _=>False) H6 H7->Bl H7 b7 [r]->b7=H6.size→
     ∀(v':Value) (H8:Hp),bY H8 v' (vs++[r])->af (az gv) H7 H8->(∀k,az v' k->az gv k\/H7.size<=k)→
      ((cell H8 ⟨s,0,none⟩).isSome=true/\j8 H8 ⟨s,0,none⟩=false)/\v'.oneCell'=true/\af (fun k=>k=s) H8 (al H8 ⟨s,0,none⟩ v')∧
      cell (al H8 ⟨s,0,none⟩ v') ⟨s,1,none⟩=some (.slice (some ⟨bl,0,none⟩) ps.length ps.length)∧
      ((cell (al H8 ⟨s,0,none⟩ v') ⟨bl,i,none⟩).isSome=true/\j8 (al H8 ⟨s,0,none⟩ v') ⟨bl,i,none⟩=false)∧
      ∃n',n'<ps.length -i/\∃(i':Nat) (gv:Value) (vs:List Value),i'<=ps.length/\n'=ps.length -i'/\(i+1:Nat)=i'∧
       Bl (al (al H8 ⟨s,0,none⟩ v') ⟨bl,i,none⟩ (.int .i64 (-1))) s (il gv (.slice (some ⟨bl,0,none⟩) ps.length ps.length) (List.replicate 256 0) (List.replicate 256 false) (List.replicate 256 false))∧
       Bl (al (al H8 ⟨s,0,none⟩ v') ⟨bl,i,none⟩ (.int .i64 (-1))) bl (iL (List.replicate i' (-1)++List.replicate (ps.length -i') 0))∧
       bY (al (al H8 ⟨s,0,none⟩ v') ⟨bl,i,none⟩ (.int .i64 (-1))) gv vs/\vs.length=i'/\(∀q,q<i'->aG (al (al H8 ⟨s,0,none⟩ v') ⟨bl,i,none⟩ (.int .i64 (-1))) (vs.getD q undef) (iL (nI (aD (ps.getD q fun _=>false)))))∧
       (∀k,az gv k->H.size<=k/\k≠s/\k≠bl)/\(∀q k,q<i'->aU (vs.getD q undef) k->H.size<=k/\k≠s/\k≠bl/\¬az gv k)/\af (fun _=>False) H (al (al H8 ⟨s,0,none⟩ v') ⟨bl,i,none⟩ (.int .i64 (-1))):=by
    intro H6 H7 r b7 O6 o6 K6 K7 xA e7 v' H8 O8 M8 N8;have s6:=K6.size;have s7:=K7.size;have s8:=M8.size;have xQ:=K6.trans K7;have hsl:s<H5.size:=JK.lt;have GX:bl<H5.size:=L35.lt;have B8:=M8.bl (xQ.bl JK (by simp)) (fun h=>(ho _ h).2.1 rfl);have L8:=M8.bl (xQ.bl L35 (by simp)) (fun h=>(ho _ h).2.2 rfl);have K9:af (fun k=>k=s) H8 (al H8 ⟨s,0,none⟩ v'):=(af.refl _ _).al _ (.inl rfl);have B9:=B8.al 0 v';have B9:Bl (al H8 ⟨s,0,none⟩ v') s (il v' (.slice (some ⟨bl,0,none⟩) ps.length ps.length) (List.replicate 256 0) (List.replicate 256 false) (List.replicate 256 false)):=B9;have hne:bl≠s:=by omega
    have L9:=K9.bl L8 hne;generalize al H8 ⟨s,0,none⟩ v'=H9 at K9 B9 L9⊢;have jF:af (fun k=>k=bl) H9 (al H9 ⟨bl,i,none⟩ (.int .i64 (-1))):=(af.refl _ _).al _ (.inl rfl);have Vq:=L9.al i (.int .i64 (-1));rw[fU]at Vq;have hset:(List.replicate i (-1:Int)++List.replicate (ps.length -i) 0).set i (-1)=List.replicate (i+1) (-1)++List.replicate (ps.length -(i+1)) 0:=by
     rw[List.set_append_right _ _ (by simp),List.length_replicate,Nat.sub_self];have:ps.length -i=(ps.length -(i+1))+1:=by omega
     rw[this,List.replicate_succ,List.replicate_succ'];simp
    rw[hset]at Vq;have hst:=L9.bk (o:=i) (by rw[ak];simp;omega);have Rl:=jF.bl B9 (by omega);generalize al H9 ⟨bl,i,none⟩ (.int .i64 (-1))=H10 at jF Vq Rl⊢;have ro:∀k,aU r k->H5.size<=k/\k<H6.size:=fun k hk=>⟨o6 k (O6.aU hk),O6.sl.bM hk⟩
    have own8:∀k,az v' k->H.size<=k/\k≠s/\k≠bl:=fun k hk=>by
     rcases N8 k hk with h|h
     ·exact ho k h
     ·have:=IH.size;omega
    have nown:∀k,H5.size<=k->¬az gv k:=fun k hk h=>by have:=O5.bM h;omega
    refine⟨B8.bk (o:=0) (by simp[il]),?_,K9,by rw[B9.cell];rfl,hst,ps.length -(i+1),by omega,i+1,v',vs++[r],by omega,rfl,rfl,Rl,Vq,(O8.ag K9 (fun k hk e=>(own8 k hk).2.1 e)).ag jF (fun k hk e=>(own8 k hk).2.2 e),by simp[hvl],fun q hq=>?_,own8,fun q k hq hk=>?_,?_⟩
    ·obtain⟨va,vn,vc,rfl⟩:=O8.shape;rfl
    ·by_cases e:q=i
     ·subst e;have:(vs++[r]).getD q undef=r:=by rw[List.getD_eq_getElem?_getD,List.getElem?_append_right (by omega),hvl];simp
      rw[this];exact(((O6.sl.ag K7 (by simp)).ag M8 (fun k hk h=>nown k (ro k hk).1 h)).ag K9 (fun k hk h=>by have:=(ro k hk).1;omega)).ag jF (fun k hk h=>by have:=(ro k hk).1;omega)
     ·have iJ:q<i:=by omega
      have:(vs++[r]).getD q undef=vs.getD q undef:=by rw[List.getD_eq_getElem?_getD,List.getElem?_append_left (by omega),<-List.getD_eq_getElem?_getD]
      rw[this];exact(((at5 q iJ).ag xQ (by simp)).ag M8 (fun k hk h=>(hz q k iJ hk).2.2.2 h)).ag K9 (fun k hk h=>(hz q k iJ hk).2.1 h)|>.ag jF (fun k hk h=>(hz q k iJ hk).2.2.1 h)
    ·by_cases e:q=i
     ·subst e;have:(vs++[r]).getD q undef=r:=by rw[List.getD_eq_getElem?_getD,List.getElem?_append_right (by omega),hvl];simp
      rw[this]at hk;obtain⟨x1,x2⟩:=ro k hk;have:=IH.size;refine⟨by omega,by omega,by omega,fun h=>?_⟩;rcases N8 k h with h|h
      ·exact nown k x1 h
      ·omega
     ·have iJ:q<i:=by omega
      have:(vs++[r]).getD q undef=vs.getD q undef:=by rw[List.getD_eq_getElem?_getD,List.getElem?_append_left (by omega),<-List.getD_eq_getElem?_getD]
      rw[this]at hk;obtain⟨x1,x2,x3,x4⟩:=hz q k iJ hk;refine⟨x1,x2,x3,fun h=>?_⟩;rcases N8 k h with h|h
      ·exact x4 h
      ·have:=(at5 q iJ).bM hk;omega
    ·exact((((IH.trans xQ).trans' M8 (fun k hk h=>by have:=(ho k h).1;omega)).bD K9 (by omega)).bD jF (by omega))
   refine bC (fun k=>az gv k\/k=s) ?_;have hns:¬(az gv b4\/b4=s):=by rintro(h|h);exact ZN _ h rfl;exact Ts h.symm
   have c0:cell H5 ⟨s,0,none⟩=some gv:=by rw[JK.cell];rfl
   have JQ:List.take 1 (List.drop 0 [u])=[u]:=rfl;simp only[go_sem,zS,↓reduceIte,Za,Zb,Zc,reduceCtorEq,ae,hns,aB,B5.aR (o:=0) (n:=1) (by simp),c0,JQ];refine⟨⟨af.refl _ _,?_⟩,?_⟩
   ·refine Hn.mono ?_;rintro r H6 ⟨O6,o6,K6⟩;obtain⟨ra,rn,rc,rfl⟩:=O6.shape;have xA:=Bl.cW H6 #[.slice ra rn rc] (ι.t 138);have K7:af (fun _=>False) H6 (H6.push (.cells #[.slice ra rn rc] (ι.t 138))):=(af.refl _ _).push _;simp only[go_sem,zS,↓reduceIte,Za,Zb,Zc,reduceCtorEq,ae,zF];refine⟨K6.any,K7.any,?_⟩;obtain⟨b7,e7⟩:∃b7,b7=H6.size:=⟨_,rfl⟩
    rw[<-e7]at xA⊢;generalize H6.push (.cells #[.slice ra rn rc] (ι.t 138))=H7 at xA K7⊢;have ZO:vs.length<=100000:=by omega
    refine eG (l:=vs) (m:=[.slice ra rn rc]) ((O5.ag K6 (by simp)).ag K7 (by simp)) (aG.bl xA 0 1 1 (by omega) (by simp)) ?_ rfl (by unfold maxLen;simp only[List.length_singleton];omega) (by simp only[List.length_singleton];omega) fun v' H8 O8 M8 N8=>?_
    ·intro y hy;simp at hy;subst hy;rfl
    ·obtain⟨g1,g2,g3,g4,g5,n',a1,i',TJ,PG,a2,a3,a4,a5⟩:=tail H6 H7 _ b7 O6 o6 K6 K7 xA e7 v' H8 O8 M8 N8;obtain⟨va,vn,vc,rfl⟩:=O8.shape;simp(disch:=omega)only[go_sem,zS,↓reduceIte,Za,Zb,Zc,reduceCtorEq,ae,hf,g1,g3,g4,g5,IntWalk.i64_in];exact⟨M8.mono (fun k _ h=>.inl h),g3.mono (fun k _ h=>.inr h),by omega,n',a1,i',TJ,PG,a2,a3,by rw[<-a4];simp,a5⟩
   ·refine Hn.mono ?_;rintro r H6 ⟨O6,o6,K6⟩;obtain⟨ra,rn,rc,rfl⟩:=O6.shape;have xA:=Bl.cW H6 #[.slice ra rn rc] (ι.t 138);have K7:af (fun _=>False) H6 (H6.push (.cells #[.slice ra rn rc] (ι.t 138))):=(af.refl _ _).push _;have c6:cell H6 ⟨s,0,none⟩=some gv:=by rw[(K6.bl JK (by simp)).cell];rfl
    have c7:cell (H6.push (.cells #[.slice ra rn rc] (ι.t 138))) ⟨s,0,none⟩=some gv:=by rw[(K7.bl (K6.bl JK (by simp)) (by simp)).cell];rfl
    simp only[go_sem,zS,↓reduceIte,Za,Zb,Zc,reduceCtorEq,ae,zF,c6,c7];obtain⟨b7,e7⟩:∃b7,b7=H6.size:=⟨_,rfl⟩
    rw[<-e7]at xA⊢;generalize H6.push (.cells #[.slice ra rn rc] (ι.t 138))=H7 at xA K7 c7⊢;have ZO:vs.length<=100000:=by omega
    refine⟨K6.any,⟨af.refl _ _,K7.any,?_⟩,K7.any,af.refl _ _,?_⟩
    ·refine eG (l:=vs) (m:=[.slice ra rn rc]) ((O5.ag K6 (by simp)).ag K7 (by simp)) (aG.bl xA 0 1 1 (by omega) (by simp)) ?_ rfl (by unfold maxLen;simp only[List.length_singleton];omega) (by simp only[List.length_singleton];omega) fun v' H8 O8 M8 N8=>?_
     ·intro y hy;simp at hy;subst hy;rfl
     ·obtain⟨g1,g2,g3,g4,g5,n',a1,i',TJ,PG,a2,a3,a4,a5⟩:=tail H6 H7 _ b7 O6 o6 K6 K7 xA e7 v' H8 O8 M8 N8;obtain⟨va,vn,vc,rfl⟩:=O8.shape;simp(disch:=omega)only[go_sem,zS,↓reduceIte,Za,Zb,Zc,reduceCtorEq,ae,hf,g1,g3,g4,g5,IntWalk.i64_in];exact⟨M8.mono (fun k _ h=>.inl h),g3.mono (fun k _ h=>.inr h),by omega,n',a1,i',TJ,PG,a2,a3,by rw[<-a4];simp,a5⟩
    ·refine eG (l:=vs) (m:=[.slice ra rn rc]) ((O5.ag K6 (by simp)).ag K7 (by simp)) (aG.bl xA 0 1 1 (by omega) (by simp)) ?_ rfl (by unfold maxLen;simp only[List.length_singleton];omega) (by simp only[List.length_singleton];omega) fun v' H8 O8 M8 N8=>?_
     ·intro y hy;simp at hy;subst hy;rfl
     ·obtain⟨g1,g2,g3,g4,g5,n',a1,i',TJ,PG,a2,a3,a4,a5⟩:=tail H6 H7 _ b7 O6 o6 K6 K7 xA e7 v' H8 O8 M8 N8;obtain⟨va,vn,vc,rfl⟩:=O8.shape;simp(disch:=omega)only[go_sem,zS,↓reduceIte,Za,Zb,Zc,reduceCtorEq,ae,hf,g1,g3,g4,g5,IntWalk.i64_in];exact⟨M8.mono (fun k _ h=>.inl h),g3.mono (fun k _ h=>.inr h),by omega,n',a1,i',TJ,PG,a2,a3,by rw[<-a4];simp,a5⟩
  ·have rD:i=ps.length:=by omega
   rw[rD,Nat.sub_self,List.replicate_zero,List.append_nil]at L3;have RC:∀{k:Nat},H.size<=k/\k≠s/\k≠bl->H.size<=k/\k≠s/\k≠bl:=fun h=>h;refine⟨gv,vs,⟨by simpa using B3,L3,by omega,O3.sl,by rw[hvl,rD];simp,fun q hq=>?_,fun k hk=>ho k (O3.aU hk),fun q k hq hk=>?_,fun h=>h.2.1 rfl,fun h=>h.2.2 rfl,by simp,by simp,by simp,by simp⟩,K3⟩
   ·have iJ:q<ps.length:=by simpa using hq
    rw[gM ps q iJ];exact hat q (by omega)
   ·have iJ:q<ps.length:=by simpa using hq
    obtain⟨x1,x2,x3,_⟩:=hz q k (by omega) hk;exact⟨x1,x2,x3⟩
end Go.Mg
namespace Go.Mg
open Go Go.RowKit
def qw (ι:aJ):S:=
 kY [kC 2 (kZ)] (kY [kA 11 0,kU 12 (.nil (.t 11)),kU 13 (.fa 0 (.t 12)),kD 14 13,kL 15 14,kc 16 (.nq (ι.t 151) 1 1 #[.bool false] (.t 15) (.t 15)),kB 3 16] (kY [kC 4 (kZ)] (.seq (kY [kA 17 0,kU 18 (.nil (.t 17)),kU 19 (.fa 1 (.t 18)),kV 20 (.ld (.t 19)),kO 21 20,kC 22 (.int .i64 0)] (.blk 0 (.loop (kY [kH 23 22 21] (.seq (.ite (.v 23) .skip (.exit 0)) (.seq (.blk 1 (kY [kA 24 22,kK 25 1 20 22,kD 26 25,kB 5 24,kB 6 26] (kY [kA 27 6,kV 28 (.cm .lss .i64 (.t 27) (.c (.int .i64 0)))] (.ite (.v 28) (kY [kA 29 3,kA 30 5,kI 31 1 29 30,kf (.st (.t 31) (.c (.bool true)))] (.reg [kA 32 4,kA 33 5,kc 34 (.cj (ι.t 26) 1 1 [.t 33]),kc 35 (.app false (ι.t 26) 1 8 #[.int .i64 0] (.t 32) (.t 34)),kB 4 35])) .skip)))) (.reg [ke 36 22,kB 22 36]))))))) (.seq (.blk 2 (.loop (.seq (kY [kA 37 4,kL 38 37,kV 39 (.cm .gtr .i64 (.t 38) (.c (.int .i64 0)))] (.ite (.v 39) .skip (.exit 2))) (.blk 3 (kY [kA 40 4,kU 41 (.is 1 (.t 40) (.c (.int .i64 0))),kD 42 41,kB 7 42] (kY [kA 43 4,kU 44 (.m (.sls 1 (.t 43) (.some (.c (.int .i64 1))) .none)),kB 4 44] (kY [kA 45 0,kU 46 (.nil (.t 45)),kU 47 (.fa 0 (.t 46)),kD 48 47,kA 49 7,kI 50 1 48 49,kV 51 (.ld (.t 50)),kO 52 51,kC 53 (.int .i64 0)] (.blk 4 (.loop (kY [kH 54 53 52] (.seq (.ite (.v 54) .skip (.exit 4)) (.seq (.blk 5 (kY [kK 55 1 51 53,kD 56 55,kB 9 56] (kY [kA 57 0,kA 58 9,kU 59 (.nil (.t 57)),kU 60 (.fa 2 (.t 59)),kU 61 (.ia 256 1 (.t 60) (.t 58)),kD 62 61,kB 10 62] (kY [kA 63 10,kU 64 (.cm .geq .i64 (.t 63) (.c (.int .i64 0))),kF 65 64,kS 66 65 true 3,kS 67 65 true 10,kT 68 65 true (.is 1 (.t 66) (.t 67)),kT 69 65 true (.ld (.t 68)),kT 70 65 true (.not (.t 69)),kV 71 (.pick (.t 65) (.t 70) (.c (.bool false)))] (.ite (.v 71) (kY [kA 72 3,kA 73 10,kI 74 1 72 73,kf (.st (.t 74) (.c (.bool true)))] (.reg [kA 75 4,kA 76 10,kc 77 (.cj (ι.t 26) 1 1 [.t 76]),kc 78 (.app false (ι.t 26) 1 8 #[.int .i64 0] (.t 75) (.t 77)),kB 4 78])) .skip))))) (.reg [ke 79 53,kB 53 79]))))))))))))) (kY [kA 80 3,kB 2 80] .ret)))))
def qx:List RV:=[.t 2]
theorem Ho {ps:List (Nat->Bool)} (h:je ps=0):ps.length<=256/\(∀i,∀j∈(ps.map aD).getD i [],j<256)/\∀i,((ps.map aD).getD i []).length<=4096:=by
 unfold je at h
 split at h
 ·omega
 ·rename_i h1
  split at h
  ·omega
  ·rename_i h2;refine⟨by omega,fun i j hj=>?_,fun i=>?_⟩
   ·by_cases hi:i<ps.length
    ·rw[gM ps i hi]at hj;apply Decidable.byContradiction;intro hn;apply h2;obtain⟨h3,h4⟩:=bH.1 hj;refine lN.2 ⟨_,?_,j,h3,h4,by omega⟩;rw[List.getD_eq_getElem?_getD,List.getElem?_eq_getElem hi];exact List.getElem_mem _
    ·rw[List.getD_eq_getElem?_getD,List.getElem?_eq_none (by simp;omega)]at hj
     cases hj
   ·by_cases hi:i<ps.length
    ·rw[gM ps i hi,bR];exact dw _ _
    ·rw[List.getD_eq_getElem?_getD,List.getElem?_eq_none (by simp;omega)];simp
def gl (ps:List (Nat->Bool)):List (List Nat):=ps.map aD
theorem Hq (ps:List (Nat->Bool)):(gl ps).length=ps.length:=by simp[gl]
def rY (H:Hp) (v:Value) (l:List Value):Prop:=
 (v=.slice none 0 0/\l=[])\/∃b o c L,v=.slice (some ⟨b,o,none⟩) l.length c/\l.length<=c/\o+c<=L.length/\Bl H b L/\(L.drop o).take l.length=l
variable {H:Hp} {v x:Value} {l:List Value}
theorem bY.toT (h:bY H v l):rY H v l:=by
 rcases h with h|⟨b,c,L,h1,h2,h3,h4,h5⟩
 ·exact .inl h
 ·exact .inr ⟨b,0,c,L,h1,h2,by omega,h4,by rw[List.drop_zero];exact h5⟩
theorem rY.ag {W:Nat->Prop} {H':Hp} (h:rY H v l) (hk:af W H H') (hw:∀k,az v k->¬W k):rY H' v l:=by
 rcases h with h|⟨b,o,c,L,rfl,h1,h2,hb,h3⟩
 ·exact .inl h
 ·exact .inr ⟨b,o,c,L,rfl,h1,h2,hk.bl hb (hw b rfl),h3⟩
theorem rY.bM (h:rY H v l) {k:Nat} (hk:az v k):k<H.size:=by
 rcases h with⟨rfl,rfl⟩|⟨b,o,c,L,rfl,h1,h2,hb,h3⟩
 ·exact hk.elim
 ·cases hk;exact hb.lt
theorem rY.sl (h:rY H v l):aG H v l:=by
 rcases h with⟨rfl,rfl⟩|⟨b,o,c,L,rfl,h1,h2,hb,h3⟩
 ·exact aG.nil _ _ _
 ·have:=aG.bl hb o l.length c h1 (by omega);rw[h3]at this;exact this
theorem rY.shape (h:rY H v l):∃a n c,v=.slice a n c:=by
 rcases h with⟨rfl,_⟩|⟨b,o,c,L,rfl,_⟩<;>exact⟨_,_,_,rfl⟩
theorem rY.pop (h:rY H v (x::l)):∃b o c,v=.slice (some ⟨b,o,none⟩) (l.length+1) c/\cell H ⟨b,o,none⟩=some x/\1<=c∧
  ∀v',v'=.slice (some (if c=1 then⟨b,o,none⟩else⟨b,o+1,none⟩)) l.length (c -1)->rY H v' l/\∀k,az v' k->az v k:=by
 rcases h with⟨_,h⟩|⟨b,o,c,L,rfl,h1,h2,hb,h3⟩
 ·cases h
 ·simp only[List.length_cons]at h1 h2 h3⊢;have hoL:o<L.length:=by omega
  rw[List.drop_eq_getElem_cons hoL,List.take_succ_cons]at h3
  injection h3 with h4 h5
  refine⟨b,o,c,rfl,?_,by omega,?_⟩
  ·rw[hb.cell,List.getElem?_eq_getElem hoL,h4]
  ·rintro v' rfl
   by_cases hc:c=1
   ·have:l=[]:=List.eq_nil_of_length_eq_zero (by omega);subst this;rw[if_pos hc];exact⟨.inr ⟨b,o,c -1,L,rfl,by simp,by omega,hb,rfl⟩,fun k h=>h⟩
   ·rw[if_neg hc];exact⟨.inr ⟨b,o+1,c -1,L,rfl,by omega,by omega,hb,h5⟩,fun k h=>h⟩
theorem TK {T:TypeId} {bytes:Nat} {z:Array Value} {s:Value} {K:Value->Hp->Prop} {m:List Value} (hs:rY H s l) (hx:aG H x m)
  (hm:bQ m.toArray) (hz:z.size=1) (h1:l.length+m.length<=maxLen) (h2:(l.length+m.length)*bytes<=140737488355328)
  (hK:∀v' H',rY H' v' (l++m)->af (az s) H H'->(∀k,az v' k->az s k\/H.size<=k)->K v' H'):qN false T 1 bytes z s x H K:=by
 have hsl:=hs.sl;have hlen:=hsl.len;have hxl:=hx.bI;have IU:eF H x m.length=some m.toArray:=by have:=hx.eF (Nat.le_refl m.length);rwa [List.take_length]at this
 refine⟨⟨hsl.ax,hx.ax,by rw[hlen,hxl];exact h1,by rw[hlen,hxl];exact h2⟩,m.toArray,by rw[Nat.mul_one,hxl];exact IU,?_⟩;rw[hlen,hxl,Nat.mul_one];rcases hs with⟨rfl,rfl⟩|⟨b,o,c,L,rfl,g1,g2,hb,g3⟩
 ·refine⟨fun hle=>?_,fun _=>⟨#[],rfl,fun c hc=>?_⟩⟩
  ·have:m=[]:=by
    have:([]:List Value).length+m.length<=0:=hle;apply List.eq_nil_of_length_eq_zero;simpa using this
   subst this;exact⟨trivial,hK _ _ (.inl ⟨rfl,rfl⟩) (af.refl _ _) (fun k h=>.inl h)⟩
  ·have hB:=Bl.cW H (#[]++m.toArray++rep z ((c -(([]:List Value).length+m.length))*z.size)) T;refine hK _ _ (bY.bl hB (by simp) (by simpa using hc) ?_ ?_).toT ((af.refl _ _).push _) (fun k h=>.inr (Nat.le_of_eq h.symm))
   ·simp[rep,hz]at hc⊢;omega
   ·simp
 ·refine⟨fun hle=>?_,fun hlt=>⟨_,hsl.eF (Nat.le_refl _),fun c' hc=>?_⟩⟩
  ·have hle:l.length+m.length<=c:=hle;refine⟨hb.fZ _ _ _ hm (by simp;omega),?_⟩;have hB:=hb.put o l.length m.toArray;refine hK _ _ (.inr ⟨b,o,c,iE L (o+l.length) m.toArray.toList,by rw[List.length_append];rfl,by simpa using hle,?_,hB,?_⟩) ((af.refl _ _).put rfl _ _ (.inl rfl)) (fun k h=>.inl h)
   ·rw[gX (by simp;omega)];exact g2
   ·unfold iE;have e1:(L.take (o+l.length)).drop o=l:=by rw[List.drop_take,Nat.add_sub_cancel_left];exact g3
    have e2:(L.take (o+l.length)).length=o+l.length:=by rw[List.length_take];omega
    rw[List.append_assoc,List.drop_append_of_le_length (by omega),e1,<-List.append_assoc,List.length_append];exact ky _ _ _
  ·rw[List.take_length];have hB:=Bl.cW H (l.toArray++m.toArray++rep z ((c' -(l.length+m.length))*z.size)) T;refine hK _ _ (bY.bl hB (by simp) hc ?_ ?_).toT ((af.refl _ _).push _) (fun k h=>.inr (Nat.le_of_eq h.symm))
   ·simp[rep,hz];omega
   ·rw[Array.toList_append,Array.toList_append];exact ky _ _ _
def mR (P:Program) (k:FuncId):Prop:=∀(H:Hp) (s bl:Nat) (gv:Value) (vs:List Value) (g:List (List Nat)) (Z:Nat->Prop) (st:cN) (F:List Bool),jv H s bl gv vs g Z st F->(∀i,∀j∈g.getD i [],j<256)->(∀i,(g.getD i []).length<=4096)->g.length<=256→
 Inv g.length 256 (Eg g) (gi st.L) (gi st.R)→
 an P k #[.pointer (some ⟨s,0,none⟩)] H fun r H'=>∃b O D,r=.slice (some ⟨b,0,none⟩) g.length g.length/\Bl H' b (bL O)/\H.size<=b/\O.length=g.length/\iP g.length 256 (Eg g) (gi st.L) D/\(∀i<g.length,O.getD i true=decide (i∈D))/\af (fun _=>False) H H'
theorem DE {P:Program} {ι:aJ} {k:FuncId} (hk:aq P k (qw ι) qx 1):mR P k:=by
 intro H s bl gv vs g Z st F hS hg hgl hgn hI;refine ah hk (args:=[_]) (by simp) ?_;unfold qw qx kA kB kF kC kD ke kH kI kK kL kO kS kT kU kV kc kf kY kZ;have vr:cell H ⟨s,0,none⟩=some gv:=by rw[hS.S.cell];rfl
 have hc1:cell H ⟨s,1,none⟩=some (.slice (some ⟨bl,0,none⟩) g.length g.length):=by rw[hS.S.cell,hS.lL];rfl
 simp only[go_sem,zS,↓reduceIte,Za,Zb,Zc,reduceCtorEq,vr,hS.sl.ax,hS.sl.len,hS.len,ai];refine⟨⟨by omega,by omega,by unfold maxLen;omega⟩,?_⟩;refine aF fun H1 b e1 z1 B1 K1=>?_;have B1:Bl H1 b (bL (List.replicate g.length false)):=by
  have:=B1;rw[cx,EW]at this;exact this
 have s1:=K1.size;have vm:s<H.size:=hS.S.lt;have aaK:bl<H.size:=hS.L.lt;have ZP:cell H1 ⟨s,1,none⟩=some (.slice (some ⟨bl,0,none⟩) g.length g.length):=by rw[(K1.bl hS.S (by simp)).cell,hS.lL];rfl
 simp only[go_sem,zS,↓reduceIte,Za,Zb,Zc,reduceCtorEq,ae,ZP]
 -- what the search needs to know of the state
 have mark:∀{D Q:List Nat} {O:List Bool} {a:Nat} {H5:Hp},True:=fun{_ _ _ _ _}=>trivial;refine eQ ?_ ?_ (Q:=fun e f H'=>e=.x 0/\f 0=.pointer (some ⟨s,0,none⟩)/\f 3=.slice (some ⟨b,0,none⟩) g.length g.length/\∃(qv:Value) (O:List Bool) (Q:List Nat),f 4=qv/\rY H' qv (iL (nI Q))/\(∀k,az qv k->H.size<=k/\k≠b)/\Bl H' b (bL O)/\jB g.length 256 (Eg g) (gi st.L) O [] Q/\(∀i<g.length,gi st.L i=-1->i∈Q)/\Q.length<=256/\af (fun _=>False) H H')
 ·rintro e f H2 ⟨rfl,Ck,j6,qv,O,Q,wF,hQ,hqo,hO,Am,hun,aam,K2⟩;simp only[go_sem,zS,↓reduceIte,Za,Zb,Zc,reduceCtorEq];refine eQ ?_ ?_ (Q:=fun e f H'=>e=.x 2/\f 3=.slice (some ⟨b,0,none⟩) g.length g.length/\∃(O:List Bool) (D:List Nat),Bl H' b (bL O)/\jB g.length 256 (Eg g) (gi st.L) O D []/\(∀i<g.length,gi st.L i=-1->i∈D)/\af (fun _=>False) H H')
  ·rintro e f H3 ⟨rfl,j6,O,D,hO,Am,hun,K3⟩;simp only[go_sem,zS,↓reduceIte,Za,Zb,Zc,reduceCtorEq,ae,j6];obtain⟨hL,Lf⟩:=Am.done hun;exact⟨b,O,D,rfl,hO,by omega,Am.len,hL,Lf,K3⟩
  ·refine aL [39,7,54,9,10,71,4,51,52,53] rfl (fun n f H'=>∃(qv:Value) (O:List Bool) (D Q:List Nat),n=j5 O+Q.length/\j5 O+Q.length<=512/\f 4=qv/\rY H' qv (iL (nI Q))/\(∀k,az qv k->H.size<=k/\k≠b)/\Bl H' b (bL O)/\jB g.length 256 (Eg g) (gi st.L) O D Q/\(∀i<g.length,gi st.L i=-1->i∈Q.reverse++D)/\af (fun _=>False) H H') (j5 O+Q.length)
    ⟨qv,O,[],Q,rfl,by have:=dw O.length (fun j=>!bu O j);have:=Am.len;unfold j5;omega,wF,hQ,hqo,hO,Am,fun i hi e=>by simpa using hun i hi e,K2⟩ ?_
   rintro n f3 H3 ⟨qv,O,D,Q,rfl,ZQ,wF,hQ,hqo,hO,Am,hun,K3⟩;simp only[go_sem,zS,↓reduceIte,Za,Zb,Zc,reduceCtorEq,ae]at wF
   cases Q with
   |nil=>
    obtain⟨qa,qn,qc,rfl⟩:=hQ.shape;have hql:=hQ.sl.len;have e0:decide ((((0:Nat)):Int)>0)=false:=rfl;have Xe:qn=0:=hql;subst Xe;simp only[go_sem,zS,↓reduceIte,Za,Zb,Zc,reduceCtorEq,ae,wF,e0,j6];exact⟨O,D,hO,Am,by simpa using hun,K3⟩
   |cons i Q=>
    have hqe:iL (nI (i::Q))=.int .i64 (i:Int)::iL (nI Q):=rfl;rw[hqe]at hQ;rw[List.length_cons]at ZQ;obtain⟨qb,qo,qc,rfl,hq0,hqc,hpop⟩:=hQ.pop;rw[ak,bh]at hpop wF;have e0:decide (((Q.length+1:Nat):Int)>0)=true:=decide_eq_true (by omega);have TL:i<g.length:=by
     have:=Am.gr.lt i (by simp);exact this
    have ZR:cell H3 ⟨s,0,none⟩=some gv:=by rw[(K3.bl hS.S (by simp)).cell];rfl
    obtain⟨gb,go,gc,rfl,-,hgc⟩:=(hS.sl.ag K3 (by simp)).cells (by intro e;have:=hS.len;rw[e,List.length_nil]at this;omega);have hvl:=hS.len;have Er:=hgc i (by rw[hvl];exact TL);have Gj:vs[i]?=some (vs.getD i undef):=by rw[List.getD_eq_getElem?_getD,List.getElem?_eq_getElem (by rw[hvl];exact TL)];rfl
    rw[Gj]at Er;have hA:=(hS.at_ i TL).ag K3 (by simp);have Om:=hS.at_ i TL;generalize vs.getD i undef=u at Er hA Om;have rD:(g.getD i []).length<=4096:=hgl i;have hlg:∀j∈g.getD i [],j<256:=hg i;have hE:∀j,Eg g i j↔j∈g.getD i []:=fun j=>Iff.rfl;generalize g.getD i []=l at hA Om rD hlg hE;have hvn:i<vs.length:=by rw[hvl];exact TL
    have vu:aP u=l.length:=by rw[hA.len,ak,bh]
    simp only[go_sem,zS,↓reduceIte,Za,Zb,Zc,reduceCtorEq,Ck,wF,e0,hq0,ZR,Er,ai,Nat.mul_one,hA.ax,vu,Nat.add_sub_cancel];refine⟨by omega,by omega,by omega,?_⟩;obtain⟨hQ2,TM⟩:=hpop _ rfl;have ep:(if qc=1 then some (⟨qb,qo,none⟩:Addr)else some ⟨qb,qo+1,none⟩)=some (if qc=1 then⟨qb,qo,none⟩else⟨qb,qo+1,none⟩):=by split<;>rfl
    rw[ep];generalize aaL:Value.slice (some (if qc=1 then(⟨qb,qo,none⟩:Addr)else⟨qb,qo+1,none⟩)) Q.length (qc -1)=qv2 at hQ2 TM⊢;have ZS:∀k,az qv2 k->H.size<=k/\k≠b:=fun k hk=>hqo k (TM k hk);refine aL [54,9,10,71,4,53] rfl (fun n f H'=>∃(q:Nat) (Hr:Value) (O':List Bool) (Q':List Nat),q<=l.length/\n=l.length -q/\f 53=.int .i64 q/\f 4=Hr/\rY H' Hr (iL (nI Q'))/\(∀k,az Hr k->H.size<=k/\k≠b)/\Bl H' b (bL O')∧
      jB g.length 256 (Eg g) (gi st.L) O' D (i::Q')/\(∀i'<g.length,gi st.L i'=-1->i'∈(i::Q').reverse++D)/\(∀p<q,∀k<g.length,gi st.L k=(l.getD p 0:Int)->k∈(i::Q').reverse++D)/\j5 O'+Q'.length<=j5 O+Q.length/\af (fun _=>False) H H') l.length
     ⟨0,qv2,O,Q,by omega,by omega,by simp only[go_sem,zS,↓reduceIte,Za,Zb,Zc,reduceCtorEq,ae];rfl,by simp only[go_sem,zS,↓reduceIte,Za,Zb,Zc,reduceCtorEq,ae],hQ2,ZS,hO,Am,hun,fun p hp=>by omega,by omega,K3⟩ ?_
    rintro n f4 H4 ⟨q,Hr,O',Q',hq,rfl,hf,DF,Vr,An,Qa,xB,TN,hcl,hme,K4⟩;simp only[go_sem,zS,↓reduceIte,Za,Zb,Zc,reduceCtorEq,ae]at hf DF;simp only[go_sem,zS,↓reduceIte,Za,Zb,Zc,reduceCtorEq,hf];refine aC (fun hlt=>?_) (fun gx=>?_)
    ·have hlt:q<l.length:=by omega
     have hA4:=Om.ag K4 (by simp);obtain⟨lb,lo,lc,rfl,-,hlc⟩:=hA4.cells (by intro e;have h:=congrArg List.length e;rw[ak,bh,List.length_nil]at h;omega);rw[ak,bh]at hlc;have Cj:=hlc q hlt;rw[bW _ _ (by rw[bh];exact hlt),yJ _ _ hlt]at Cj;have Ro:l.getD q 0∈l:=by rw[List.getD_eq_getElem?_getD,List.getElem?_eq_getElem hlt];exact List.getElem_mem _
     have ZT:∀{vx:List Nat},(∀k,k∈(i::Q').reverse++D->k∈(i::vx).reverse++D)->(∀k<g.length,gi st.L k=(l.getD q 0:Int)->k∈(i::vx).reverse++D)->∀p<q+1,∀k<g.length,gi st.L k=(l.getD p 0:Int)->k∈(i::vx).reverse++D:=by
      intro vx h1 h2 p hp k hk e
      by_cases e2:p=q
      ·subst e2;exact h2 k hk e
      ·exact h1 k (hcl p (by omega) k hk e)
     generalize l.getD q 0=j at*;have hj:=hlg j Ro;have cR:cell H4 ⟨s,2+j,none⟩=some (.int .i64 (gi st.R j)):=by rw[(K4.bl hS.S (by simp)).cell,Cg hS.lR hj]
     have next:∀(H5:Hp) (qy:Value) (Hs:List Bool) (vx:List Nat),rY H5 qy (iL (nI vx))->(∀k,az qy k->H.size<=k/\k≠b)->Bl H5 b (bL Hs)->jB g.length 256 (Eg g) (gi st.L) Hs D (i::vx)->(∀k,k∈(i::Q').reverse++D->k∈(i::vx).reverse++D)->(∀k<g.length,gi st.L k=(j:Int)->k∈(i::vx).reverse++D)→
       j5 Hs+vx.length<=j5 O+Q.length->af (fun _=>False) H H5->∃n',n'<l.length -q/\∃(q':Nat) (Hr:Value) (O':List Bool) (Q':List Nat),q'<=l.length/\n'=l.length -q'/\(q+1:Nat)=q'/\qy=Hr/\rY H5 Hr (iL (nI Q'))/\(∀k,az Hr k->H.size<=k/\k≠b)/\Bl H5 b (bL O')∧
      jB g.length 256 (Eg g) (gi st.L) O' D (i::Q')/\(∀i'<g.length,gi st.L i'=-1->i'∈(i::Q').reverse++D)/\(∀p<q',∀k<g.length,gi st.L k=(l.getD p 0:Int)->k∈(i::Q').reverse++D)/\j5 O'+Q'.length<=j5 O+Q.length/\af (fun _=>False) H H5:=
      fun H5 qy Hs vx a1 a2 a3 a4 a5 a6 a7 a9=>⟨l.length -(q+1),by omega,q+1,qy,Hs,vx,by omega,rfl,rfl,rfl,a1,a2,a3,a4,fun i' h e=>a5 _ (TN i' h e),ZT a5 a6,a7,a9⟩
     have QT:∀k<g.length,gi st.L k=(j:Int)->gi st.R j=(k:Int):=by
      intro k hk e;rcases hI.l k hk with h|⟨j',_,h,_,h'⟩
      ·omega
      ·have:j'=j:=by omega
       subst this;exact h'
     have s4:=K4.size;rcases hI.r j hj with E2|⟨a,ha,E2,Et⟩
     ·rw[E2]at cR;have c0:decide ((-1:Int)≥0)=false:=rfl;obtain⟨n',a1,q',qy,Hs,vx,a2,a3,a4,a5,a6⟩:=next H4 Hr O' Q' Vr An Qa xB (fun k h=>h) (fun k hk e=>by have:=QT k hk e;omega) hme K4
      simp(disch:=omega)only[go_sem,zS,↓reduceIte,Za,Zb,Zc,reduceCtorEq,ae,hf,Ck,DF,ak,bh,ai,Nat.mul_one,Cj,cR,c0,IntWalk.i64_in];exact⟨by omega,by omega,n',a1,q',qy,Hs,vx,a2,a3,by rw[<-a4];simp,a5,a6⟩
     ·have c0:decide ((a:Int)≥0)=true:=decide_eq_true (by omega);rw[E2]at cR;have cO:cell H4 ⟨b,a,none⟩=some (.bool (O'.getD a true)):=by
       have hal:a<O'.length:=by rw[xB.len];exact ha
       rw[Qa.cell,sE _ _ hal,List.getD_eq_getElem?_getD,List.getD_eq_getElem?_getD,List.getElem?_eq_getElem hal];rfl
      cases TO:O'.getD a true with
      |true=>
       rw[TO]at cO;have ZU:a∈(i::Q').reverse++D:=by have:=xB.is a ha;rw[TO]at this;simpa using this.symm
       obtain⟨n',a1,q',qy,Hs,vx,a2,a3,a4,a5,a6⟩:=next H4 Hr O' Q' Vr An Qa xB (fun k h=>h) (fun k hk e=>by
        have:=QT k hk e;have:k=a:=by omega
        subst this;exact ZU) hme K4
       simp(disch:=omega)only[go_sem,zS,↓reduceIte,Za,Zb,Zc,reduceCtorEq,ae,hf,Ck,j6,DF,ak,bh,ai,Nat.mul_one,Cj,cR,c0,cO,IntWalk.i64_in];exact⟨by omega,by omega,by omega,n',a1,q',qy,Hs,vx,a2,a3,by rw[<-a4];simp,a5,a6⟩
      |false=>
       rw[TO]at cO;simp only[go_sem,zS,↓reduceIte,Za,Zb,Zc,reduceCtorEq,hf,Ck,j6,DF,ak,bh,ai,Nat.mul_one,Cj,cR,c0,cO];have hst:=Qa.bk (o:=a) (by rw[ft,xB.len];exact ha);have Lf:=Qa.al a (.bool true);rw[sF]at Lf;have K5:af (fun k=>k=b) H4 (al H4 ⟨b,a,none⟩ (.bool true)):=(af.refl _ _).al _ (.inl rfl);have TP:=Vr.ag K5 (fun k hk e=>(An k hk).2 e);have Qc:=xB.mark ha TO (.inr ⟨i,by simp,j,hj,(hE j).2 Ro,Et⟩);have hus:=sP (a:=O') (j:=a) (by rw[xB.len];exact ha) (by unfold bu;exact TO);refine⟨by omega,by omega,by omega,by omega,hst.2,?_⟩;generalize al H4 ⟨b,a,none⟩ (.bool true)=H5 at Lf K5 TP⊢;rw[ae];simp only[go_sem,zS,↓reduceIte,Za,Zb,Zc,reduceCtorEq,zF,DF];refine aF fun H6 b6 e6 z6 B6 K6=>?_;have s5:=K5.size;have s6:=K6.size;have aaM:b<H4.size:=Qa.lt;simp only[go_sem,zS,↓reduceIte,Za,Zb,Zc,reduceCtorEq,ae];refine TK (l:=iL (nI Q')) (m:=[.int .i64 (a:Int)]) (TP.ag K6 (by simp)) (aG.bl B6 0 1 1 (by omega) (by simp)) ?_ rfl ?_ ?_ fun v' H7 O7 M7 N7=>?_
       ·intro y hy;simp at hy;subst hy;rfl
       ·unfold maxLen;simp only[List.length_singleton,ak,bh];omega
       ·simp only[List.length_singleton,ak,bh];omega
       ·have s7:=M7.size;have TQ:iL (nI Q')++[.int .i64 (a:Int)]=iL (nI (Q'++[a])):=by simp[iL,nI]
        rw[TQ]at O7;obtain⟨n',a1,q',qy,Hs,vx,a2,a3,a4,a5,a6⟩:=next H7 v' (O'.set a true) (Q'++[a]) O7 (fun k hk=>by
          rcases N7 k hk with h|h
          ·exact An k h
          ·omega) (M7.bl (K6.bl Lf (by simp)) (fun h=>(An _ h).2 rfl)) Qc (fun k h=>by simp at h⊢;exact .inr h) (fun k hk e=>by
           have:=QT k hk e;have:k=a:=by omega
           subst this;simp) (by simp only[List.length_append,List.length_singleton];omega) (((K4.bD K5 (by omega)).trans K6).trans' M7 (fun q hq h=>by have:=(An q h).1;omega))
        simp(disch:=omega)only[go_sem,zS,↓reduceIte,Za,Zb,Zc,reduceCtorEq,ae,hf,IntWalk.i64_in];exact⟨n',a1,q',qy,Hs,vx,a2,a3,by rw[<-a4];simp,a5,a6⟩
    ·have hql:q=l.length:=by omega
     subst hql;have ZV:=jB.pop (Q:=[]) xB fun j hj hE' k hk e=>by
      obtain⟨p,hp,e2⟩:=List.getElem_of_mem ((hE j).1 hE');refine hcl p hp k hk ?_;rw[List.getD_eq_getElem?_getD,List.getElem?_eq_getElem hp,e2];exact e
     exact⟨j5 O'+Q'.length,by omega,Hr,O',i::D,Q',rfl,by omega,DF,Vr,An,Qa,ZV,fun i' h e=>by rw[<-Ba];exact TN i' h e,K4⟩
 ·refine aL [23,5,6,28,4,22] rfl (fun n f H'=>∃(i:Nat) (qv:Value) (O:List Bool) (Q:List Nat),i<=g.length/\n=g.length -i/\f 22=.int .i64 i/\f 4=qv/\Q.length<=i/\bY H' qv (iL (nI Q))/\(∀k,az qv k->H.size<=k/\k≠b)/\Bl H' b (bL O)/\jB g.length 256 (Eg g) (gi st.L) O [] Q/\(∀a<i,gi st.L a=-1->a∈Q)/\(∀a∈Q,a<i)/\af (fun _=>False) H H') g.length
   ⟨0,.slice none 0 0,List.replicate g.length false,[],by omega,by omega,by simp only[go_sem,zS,↓reduceIte,Za,Zb,Zc,reduceCtorEq,ae];rfl,by simp only[go_sem,zS,↓reduceIte,Za,Zb,Zc,reduceCtorEq,ae],by simp,bY.nil _,fun k h=>h.elim,B1,⟨by simp,fun i hi=>by simp[List.getD_eq_getElem?_getD,hi],trivial,fun i h=>by cases h⟩,fun a h=>by omega,fun a h=>(by cases h),K1⟩ ?_
  rintro n f H2 ⟨i,qv,O,Q,hi,rfl,hf,wF,hQl,hQ,hqo,hO,Am,hun,ZW,K2⟩;simp only[go_sem,zS,↓reduceIte,Za,Zb,Zc,reduceCtorEq,ae]at hf wF;simp only[go_sem,zS,↓reduceIte,Za,Zb,Zc,reduceCtorEq,hf];refine aC (fun hlt=>?_) (fun gx=>?_)
  ·have hlt:i<g.length:=by omega
   have s2:=K2.size;have hc:cell H2 ⟨bl,i,none⟩=some (.int .i64 (gi st.L i)):=by
    rw[(K2.bl hS.L (by simp)).cell,bW _ _ (by rw[hS.lL];exact hlt)];unfold gi;simp[List.getD_eq_getElem?_getD,show i<st.L.length by rw[hS.lL];exact hlt]
   simp only[go_sem,zS,↓reduceIte,Za,Zb,Zc,reduceCtorEq,ai,Nat.mul_one,hc];refine⟨by omega,?_⟩;refine aC (fun h=>?_) (fun h=>?_)
   ·have CQ:gi st.L i=-1:=by
     rcases hI.l i hlt with h'|⟨j,_,h',_⟩<;>omega
    have hnQ:i∉Q:=fun h=>by have:=ZW i h;omega
    have hst:=hO.bk (o:=i) (by rw[ft,Am.len];exact hlt);have Lf:=hO.al i (.bool true);rw[sF]at Lf;have K3:af (fun k=>k=b) H2 (al H2 ⟨b,i,none⟩ (.bool true)):=(af.refl _ _).al _ (.inl rfl);have TP:=hQ.ag K3 (fun k hk e=>(hqo k hk).2 e);have Qc:=Am.mark hlt (by rw[Am.is i hlt];simpa using hnQ) (.inl CQ);simp only[go_sem,zS,↓reduceIte,Za,Zb,Zc,reduceCtorEq,hf,hst,ai,Nat.mul_one];refine⟨by omega,?_⟩;generalize al H2 ⟨b,i,none⟩ (.bool true)=H3 at Lf K3 TP⊢;rw[ae];simp only[go_sem,zS,↓reduceIte,Za,Zb,Zc,reduceCtorEq,zF,wF];refine aF fun H4 b4 e4 z4 B4 K4=>?_;have s3:=K3.size;have s4:=K4.size;have hb:b<H2.size:=hO.lt;simp only[go_sem,zS,↓reduceIte,Za,Zb,Zc,reduceCtorEq,ae];refine eG (l:=iL (nI Q)) (m:=[.int .i64 (i:Int)]) (TP.ag K4 (by simp)) (aG.bl B4 0 1 1 (by omega) (by simp)) ?_ rfl ?_ ?_ fun v' H5 O5 M5 N5=>?_
    ·intro y hy;simp at hy;subst hy;rfl
    ·unfold maxLen;simp only[List.length_singleton,ak,bh];omega
    ·simp only[List.length_singleton,ak,bh];omega
    ·have s5:=M5.size;have TQ:iL (nI Q)++[.int .i64 (i:Int)]=iL (nI (Q++[i])):=by simp[iL,nI]
     rw[TQ]at O5;simp(disch:=omega)only[go_sem,zS,↓reduceIte,Za,Zb,Zc,reduceCtorEq,ae,hf,IntWalk.i64_in];refine⟨g.length -(i+1),by omega,i+1,_,O.set i true,Q++[i],by omega,rfl,by simp,rfl,by simp;omega,O5,fun k hk=>?_,M5.bl (K4.bl Lf (by simp)) (fun h=>(hqo _ h).2 rfl),Qc,fun a ha e=>?_,fun a ha=>?_,?_⟩
     ·rcases N5 k hk with h|h
      ·exact hqo k h
      ·omega
     ·by_cases e2:a=i
      ·subst e2;simp
      ·exact List.mem_append_left _ (hun a (by omega) e)
     ·rcases List.mem_append.1 ha with ha|ha
      ·have:=ZW a ha;omega
      ·simp at ha;omega
     ·exact(((K2.bD K3 (by omega)).trans K4).trans' M5 (fun q hq h=>by have:=(hqo q h).1;omega))
   ·simp(disch:=omega)only[go_sem,zS,↓reduceIte,Za,Zb,Zc,reduceCtorEq,ae,hf,wF,IntWalk.i64_in];exact⟨g.length -(i+1),by omega,i+1,_,O,Q,by omega,rfl,by simp,rfl,by omega,hQ,hqo,hO,Am,fun a ha e=>by
     by_cases e2:a=i
     ·subst e2;omega
     ·exact hun a (by omega) e,fun a ha=>by have:=ZW a ha;omega,K2⟩
  ·have rD:i=g.length:=by omega
   subst rD;exact⟨qv,O,Q,by first|exact wF|rfl,hQ.toT,hqo,hO,Am,hun,by omega,K2⟩
end Go.Mg
namespace Go.Mg
open Go Go.RowKit
def Ao (ι:aJ):S:=
 kY [kC 2 (kZ),kC 3 (.bool false)] (.seq (kY [kA 8 0,kc 9 (kg (ι.f 144) [.t 8]),kV 10 (.cm .neq .i64 (.t 9) (.c (.int .i64 0)))] (.ite (.v 10) (kY [kC 2 (kZ),kC 3 (.bool false)] .ret) .skip)) (kY [kA 11 0,kc 12 (kg (ι.f 146) [.t 11]),kB 4 12] (kY [kA 13 4,kc 14 (kg (ι.f 148) [.t 13])] (kY [kC 5 (kZ)] (.seq (kY [kA 15 4,kd 16 (kg (ι.f 152) [.t 15]),kO 17 16,kC 18 (.int .i64 0)] (.blk 0 (.loop (kY [kH 19 18 17] (.seq (.ite (.v 19) .skip (.exit 0)) (.seq (.blk 1 (kY [kA 20 18,kK 21 1 16 18,kD 22 21,kB 6 20,kB 7 22] (kY [kV 23 (.mv (.v 7))] (.ite (.v 23) (.reg [kA 24 5,kA 25 6,kc 26 (.cj (ι.t 26) 1 1 [.t 25]),kc 27 (.app false (ι.t 26) 1 8 #[.int .i64 0] (.t 24) (.t 26)),kB 5 27]) .skip)))) (.reg [ke 28 18,kB 18 28]))))))) (kY [kA 29 5,kA 30 5,kL 31 30,kU 32 (.cm .gtr .i64 (.t 31) (.c (.int .i64 0))),kB 2 29,kB 3 32] .ret))))))
def Ap:List RV:=[.t 2,.t 3]
def jg (ps:List (Nat->Bool)) (D:List Nat):Prop:=∃L,Mx ps.length 256 (Eg (gl ps)) (gi L)/\L.length=ps.length/\iP ps.length 256 (Eg (gl ps)) (gi L) D
def gP (D:List Nat) (i:Nat):List Nat:=(List.range i).filter fun a=>decide (a∈D)
def Qd (D:List Nat) (i:Nat):List Nat:=(List.range i).filter fun a=>!decide (a∈D)
theorem xC (D:List Nat) (i:Nat):gP D (i+1)=gP D i++if i∈D then[i]else[]:=by
 unfold gP;rw[List.range_succ,List.filter_append];congr 1
 by_cases h:i∈D<;>simp[h]
theorem Ht (D:List Nat) (i:Nat):(gP D i).length<=i:=by
 unfold gP;have:=List.length_filter_le (fun a=>decide (a∈D)) (List.range i);simpa using this
def xD (ps:List (Nat->Bool)) (H:Hp) (r:Value) (H':Hp):Prop:=((je ps≠0/\r=.tuple #[.slice none 0 0,.bool false])\/∃v D,je ps=0/\jg ps D/\r=.tuple #[v,.bool (decide (((gP D ps.length).length:Int)>0))]/\bY H' v (iL (nI (gP D ps.length)))/\∀k,az v k->H.size<=k)/\af (fun _=>False) H H'
def qz (P:Program) (ι:aJ) (k:FuncId):Prop:=∀(ps:List (Nat->Bool)) (v:Value) (Z:Nat->Prop) (H:Hp),br ι H->Hd H v ps Z->ps.length<=100000→
 an P k #[v] H (xD ps H)
theorem Lg {P:Program} {ι:aJ} {k:FuncId} (hk:aq P k (Ao ι) Ap 1) (hc:ik P (ι.f 144)) (hb:oa P ι (ι.f 146)) (hm:lO P (ι.f 148)) (hl:mR P (ι.f 152)):qz P ι k:=by
 intro ps v Z H hT hv hn;refine ah hk (args:=[_]) (by simp) ?_;unfold Ao Ap kA kB kC kD ke kH kK kL kO kU kV kc kd kg kY kZ;obtain⟨R,hR⟩:∃R,R=xD ps H:=⟨_,rfl⟩
 rw[<-hR];simp only[go_sem,zS,↓reduceIte,Za,Zb,Zc,reduceCtorEq,ae];refine(hc ps v Z H hv hn).mono ?_;rintro r H1 ⟨rfl,K1⟩
 by_cases h0:je ps=0
 ·obtain⟨c1,c2,c3⟩:=Ho h0;have e0:((0:Int)!=0)=false:=rfl;simp only[go_sem,zS,↓reduceIte,Za,Zb,Zc,reduceCtorEq,ae,h0,e0];refine(hb ps v Z H1 (hT.ag K1) (hv.aj K1) hn).mono ?_;rintro r H2 ⟨s,bl,gv,vs,Se,rfl,hS,K2,g1,g2⟩;simp only[go_sem,zS,↓reduceIte,Za,Zb,Zc,reduceCtorEq,ae];refine(hm H2 s bl gv vs (ps.map aD) _ _ hS c2 c3 (by simpa using c1) (by simp) rfl).mono ?_;rintro r H3 ⟨L,R',TR,He,hM,K3⟩;have s1:=K1.size;simp only[go_sem,zS,↓reduceIte,Za,Zb,Zc,reduceCtorEq,ae];refine(hl H3 s bl gv vs (ps.map aD) _ _ _ He c2 c3 (by simpa using c1) (by simpa using hM.inv)).mono ?_;rintro r H4 ⟨b,O,D,rfl,hO,hbo,hOl,hD,hOD,K4⟩;rw[List.length_map]at hD hOl hOD;have s3:=K3.size;have s2:=K2.size;have MS:=((K1.trans K2).trans' K3 (fun i hi h=>by omega)).trans K4;have c1':ps.length<=256:=c1;simp only[go_sem,zS,↓reduceIte,Za,Zb,Zc,reduceCtorEq,ae,List.length_map];refine aL [19,6,7,23,5,18] rfl (fun n f H'=>∃(i:Nat) (v:Value),i<=ps.length/\n=ps.length -i/\f 18=.int .i64 i/\f 5=v/\bY H' v (iL (nI (gP D i)))/\(∀k,az v k->H.size<=k/\k≠b)/\Bl H' b (bL O)/\af (fun _=>False) H H') ps.length
   ⟨0,.slice none 0 0,by omega,by omega,by simp only[go_sem,zS,↓reduceIte,Za,Zb,Zc,reduceCtorEq,ae];rfl,by simp only[go_sem,zS,↓reduceIte,Za,Zb,Zc,reduceCtorEq,ae],bY.nil _,fun k h=>h.elim,hO,MS⟩ ?_
  rintro n f H5 ⟨i,v',hi,rfl,hf,Rp,MH,ho,Vs,K5⟩;simp only[go_sem,zS,↓reduceIte,Za,Zb,Zc,reduceCtorEq,ae]at hf Rp;simp only[go_sem,zS,↓reduceIte,Za,Zb,Zc,reduceCtorEq,hf];refine aC (fun hlt=>?_) (fun gx=>?_)
  ·have hlt:i<ps.length:=by omega
   have hcO:cell H5 ⟨b,i,none⟩=some (.bool (O.getD i true)):=by
    have hal:i<O.length:=by rw[hOl];exact hlt
    rw[Vs.cell,sE _ _ hal,List.getD_eq_getElem?_getD,List.getD_eq_getElem?_getD,List.getElem?_eq_getElem hal];rfl
   rw[hOD i hlt]at hcO;simp only[go_sem,zS,↓reduceIte,Za,Zb,Zc,reduceCtorEq,ai,Nat.mul_one,hcO];refine⟨by omega,?_⟩
   by_cases hd:i∈D
   ·simp only[go_sem,zS,↓reduceIte,Za,Zb,Zc,reduceCtorEq,zF,hd,Rp];refine aF fun H6 b6 e6 z6 B6 K6=>?_;have s6:=K6.size;have hb5:=Vs.lt;simp only[go_sem,zS,↓reduceIte,Za,Zb,Zc,reduceCtorEq,ae];have hle:=Ht D i;refine eG (l:=iL (nI (gP D i))) (m:=[.int .i64 (i:Int)]) (MH.ag K6 (by simp)) (aG.bl B6 0 1 1 (by omega) (by simp)) ?_ rfl ?_ ?_ fun v2 H7 O7 M7 N7=>?_
    ·intro y hy;simp at hy;subst hy;rfl
    ·unfold maxLen;simp only[List.length_singleton,ak,bh];omega
    ·simp only[List.length_singleton,ak,bh];omega
    ·have s7:=M7.size;have TQ:iL (nI (gP D i))++[.int .i64 (i:Int)]=iL (nI (gP D (i+1))):=by rw[xC,if_pos hd];simp[iL,nI]
     rw[TQ]at O7;simp(disch:=omega)only[go_sem,zS,↓reduceIte,Za,Zb,Zc,reduceCtorEq,ae,hf,IntWalk.i64_in];refine⟨ps.length -(i+1),by omega,i+1,v2,by omega,rfl,by simp,rfl,O7,fun k hk=>?_,M7.bl (K6.bl Vs (by simp)) (fun h=>(ho _ h).2 rfl),(K5.trans K6).trans' M7 (fun q hq h=>by have:=(ho q h).1;omega)⟩;rcases N7 k hk with h|h
     ·exact ho k h
     ·have:=K5.size;omega
   ·simp(disch:=omega)only[go_sem,zS,↓reduceIte,Za,Zb,Zc,reduceCtorEq,ae,hf,Rp,hd,IntWalk.i64_in];exact⟨ps.length -(i+1),by omega,i+1,v',by omega,rfl,by simp,rfl,by rw[xC,if_neg hd,List.append_nil];exact MH,ho,Vs,K5⟩
  ·have rD:i=ps.length:=by omega
   subst rD;obtain⟨va,vn,vc,rfl⟩:=MH.shape;have hvl:=MH.sl.len;rw[ak,bh]at hvl;have hvl:vn=(gP D ps.length).length:=hvl;subst hvl;simp only[go_sem,zS,↓reduceIte,Za,Zb,Zc,reduceCtorEq,ae,Rp];subst hR;exact⟨.inr ⟨_,D,h0,⟨L,by simpa[gl]using hM.mx,by simpa using hM.lL,hD⟩,rfl,MH,fun k hk=>(ho k hk).1⟩,K5⟩
 ·have e0:(je ps !=0)=true:=by simpa using h0
  simp only[go_sem,zS,↓reduceIte,Za,Zb,Zc,reduceCtorEq,ae,e0];subst hR;exact⟨.inl ⟨h0,rfl⟩,K1⟩
def IM (ps:List (Nat->Bool)) (l:List Nat) (n:Nat):Bool:=l.any fun a=>(ps.getD a fun _=>false) n
def DG (ps:List (Nat->Bool)) (m:List Int) (i:Nat):Prop:=(∀a<i,gi m a=-1\/cX (ps.getD a fun _=>false) (gi m a)=true)/\∀a<i,∀b<i,gi m a=gi m b->gi m a≠-1->a=b
variable {m:List Int} {i:Nat}
theorem DG.skip {ps:List (Nat->Bool)} (h:DG ps m i) (hi:gi m i=-1):DG ps m (i+1):=by
 refine⟨fun a ha=>?_,fun a ha b hb e hn=>?_⟩
 ·by_cases e:a=i
  ·subst e;exact .inl hi
  ·exact h.1 a (by omega)
 ·by_cases e1:a=i
  ·subst e1;exact absurd hi hn
  ·by_cases e2:b=i
   ·subst e2;exact absurd (e.trans hi) hn
   ·exact h.2 a (by omega) b (by omega) e hn
theorem DG.push {ps:List (Nat->Bool)} (h:DG ps m i) (hi:cX (ps.getD i fun _=>false) (gi m i)=true) (hu:∀a<i,gi m a≠gi m i):DG ps m (i+1):=by
 refine⟨fun a ha=>?_,fun a ha b hb e hn=>?_⟩
 ·by_cases e:a=i
  ·subst e;exact .inr hi
  ·exact h.1 a (by omega)
 ·by_cases e1:a=i
  ·by_cases e2:b=i
   ·omega
   ·subst e1;exact absurd e.symm (hu b (by omega))
  ·by_cases e2:b=i
   ·subst e2;exact absurd e (hu a (by omega))
   ·exact h.2 a (by omega) b (by omega) e hn
end Go.Mg
