/- Lemmas of ours. No conditions. -/
import Derived.Test.YtkfikjdbdfekfabDoorMgK3
open Nat renaming reduceEqDiff→Za,reduceAdd→Zb,reduceMul→Zc
set_option linter.all false
namespace Go.Mg
open Go Go.RowKit
set_option maxRecDepth 10000
def gC (ι:bh):S:=
 .seq (kY [kA 5 0,kV 6 (.m (.eqn .ptr false (.t 5)))] (.ite (.v 6) .ret .skip)) (kY [kA 7 0,kU 8 (.nil (.t 7)),kU 9 (.fa 162 (.t 8)),kD 10 9,kA 11 1,kL 12 11,kU 13 (.ii .u64 (.t 12)),kU 14 (.ar .add .u64 (.t 10) (.t 13)),kU 15 (.nil (.t 7)),kU 16 (.fa 162 (.t 15)),kf (.st (.t 16) (.t 14))] (.blk 0 (.loop (.seq (kY [kA 17 1,kL 18 17,kV 19 (.cm .gtr .i64 (.t 18) (.c (.int .i64 0)))] (.ite (.v 19) .skip (.exit 0))) (.blk 1 (kY [kA 20 0,kU 21 (.nil (.t 20)),kU 22 (.fa 25 (.t 21)),kA 23 0,kU 24 (.nil (.t 23)),kU 25 (.fa 161 (.t 24)),kD 26 25,kU 27 (.m (.sla 136 1 (.t 22) (.some (.t 26)) .none)),kA 28 1,kc 29 (.cpy false 1 (.t 27) (.t 28)),kB 4 29] (kY [kA 30 1,kA 31 4,kU 32 (.m (.sls 1 (.t 30) (.some (.t 31)) .none)),kB 1 32] (kY [kA 33 0,kU 34 (.nil (.t 33)),kU 35 (.fa 161 (.t 34)),kD 36 35,kA 37 4,kU 38 (.ar .add .i64 (.t 36) (.t 37)),kU 39 (.nil (.t 33)),kU 40 (.fa 161 (.t 39)),kf (.st (.t 40) (.t 38))] (kY [kA 41 0,kU 42 (.nil (.t 41)),kU 43 (.fa 161 (.t 42)),kD 44 43,kV 45 (.cm .eql .i64 (.t 44) (.c (.int .i64 136)))] (.ite (.v 45) (kY [kA 46 0,kU 47 (.nil (.t 46)),kU 48 (.fa 0 (.t 47)),kA 49 0,kU 50 (.nil (.t 49)),kU 51 (.fa 25 (.t 50)),kU 52 (.m (.sla 136 1 (.t 51) .none .none)),kc 53 (kg (ι.f 7) [.t 48,.t 52])] (.reg [kA 54 0,kU 55 (.nil (.t 54)),kU 56 (.fa 161 (.t 55)),kf (.st (.t 56) (.c (.int .i64 0)))])) .skip))))))))))
def gD:List RV:=[]
def dy (P:Program) (ι:bh) (k:FuncId):Prop:=∀(b:Nat) (p q:List UInt8) (v:Value) (H:Hp),iJ H b p->aC H v (w8 q)->¬cQ v b->nW ι b->aE ι H→
 ai P k #[.pointer (some ⟨b,0,none⟩),v] H fun r H'=>r=.tuple #[]/\iJ H' b (p++q)/\ae (·=b) H H'
theorem nZ (p q:List UInt8):IntKind.u64.wrap (((UInt64.ofNat p.length).toNat:Int)+IntKind.u64.wrap (q.length:Int))=(UInt64.ofNat (p++q).length).toNat:=by
 rw[IntKind.wrap_u64,IntKind.wrap_u64,UInt64.toNat_ofNat',UInt64.toNat_ofNat',List.length_append];omega
theorem mz {P:Program} {ι:bh} {k:FuncId} (hk:ah P k (gC ι) gD 2) (ha:bU P ι (ι.f 7)):dy P ι k:=by
 intro b p q v H hb hv hvb p6 hG;obtain⟨buf,hl,ht,hB⟩:=hb;have hs:=eU p;have hmk:=hv.mk;obtain⟨a,c,rfl,hc⟩:=hmk;rw[af]at hc;refine ag hk (args:=[_,_]) (by simp) ?_;unfold gC gD kA kB kD kL kU kV kc kf kg kY;have pb:=hB.al 162 (.int .u64 (UInt64.ofNat (p++q).length).toNat);rw[jg hs hl]at pb;have hn:(false !=false)=false:=rfl;simp only[go_sem,zS,↓reduceIte,Za,Zb,Zc,reduceCtorEq,aa,hB.cell,hB.cE,nY hs hl,af,nZ,hn];have iR:ae (·=b) H (al H ⟨b,162,none⟩ (.int .u64 (UInt64.ofNat (p++q).length).toNat)):=(ae.refl _ _).al _ (.inl rfl);refine aD [19,4,1,45] rfl (fun n f H'=>∃i a c,i<=q.length/\n=q.length -i/\f 1=.slice a (q.length -i) c/\aC H' (f 1) (w8 (q.drop i))/\¬cQ (f 1) b/\eZ H' b (p++q.take i) (UInt64.ofNat (p++q).length).toNat/\ae (·=b) H H') q.length
  ⟨0,a,c,by omega,rfl,rfl,?_,by simp only[go_sem,zS,↓reduceIte,Za,Zb,Zc,reduceCtorEq,aa];rwa [af]at hvb,⟨buf,hl,?_,?_⟩,iR⟩ ?_
 ·simp only[go_sem,zS,↓reduceIte,Za,Zb,Zc,reduceCtorEq,aa,af,List.drop_zero];have:=hv.ax iR (fun k h1 h2=>hvb (h2▸h1))
  rwa [af]at this
 ·simpa using ht
 ·simpa using pb
 rintro n g H1 ⟨i,a1,c1,hi,rfl,sD,sE,hvb1,⟨fb,j2,rE,pb⟩,iR⟩;generalize uG:p++q.take i=p' at*;simp only[go_sem,zS,↓reduceIte,Za,Zb,Zc,reduceCtorEq,aa]at sD sE hvb1;rw[sD]at sE hvb1;simp only[go_sem,zS,↓reduceIte,Za,Zb,Zc,reduceCtorEq,aa,sD];refine au (fun hlt=>?_) (fun o8=>?_)
 ·have hu:p'.length % 136<136:=Nat.mod_lt _ (by omega);have hs1:=eU p';simp(disch:=omega)only[go_sem,zS,↓reduceIte,Za,Zb,Zc,reduceCtorEq,aa,pb.cell,pb.cE,da hs1 j2,af,sD,show((136:Nat)=p'.length % 136)=False from eq_false (by omega)];generalize rY:p'.length % 136=u at*;generalize xP:min (q.length -i) (136 -u)=k at*;have hxl:((q.drop i).take k).length=k:=by simp;omega
  generalize hx:(q.drop i).take k=x at*;have hN:bD H1 (Value.slice a1 (q.length -i) c1) k=some (w8 x).toArray:=by
   rw[sE.bD (by rw[af];simp;omega),ee,hx]
  have dU:(bA fb u x).length=136:=by rw[eY (by omega),j2]
  have sF:=pb.put (25+u) 0 (w8 x).toArray;have e:(25+u+0)=25+u:=rfl;rw[e,my hs1 j2 u x (by omega)]at sF;have nh:=sF.al 161 (.int .i64 ((u+k:Nat):Int));rw[eX hs1 dU]at nh;have ew:(u:Int)+(k:Int)=((u+k:Nat):Int):=by omega
  have ry:ae (·=b) H (bE H1 (some ⟨b,25+u,none⟩) 0 (w8 x).toArray):=iR.put rfl _ _ (.inl rfl);have pY:=ry.al (p:=⟨b,161,none⟩) (.int .i64 ((u+k:Nat):Int)) (.inl rfl);have sW:q.take (i+k)=q.take i++x:=by rw[List.take_add,hx]
  have vu:p++q.take (i+k)=p'++x:=by rw[sW,<-List.append_assoc,uG]
  have wU:q.drop (i+k)=(q.drop i).drop k:=by rw[List.drop_drop]
  have wV:aC H1 (fK (.slice a1 (q.length -i) c1) 1 (some (k:Int)) none) (w8 (q.drop (i+k))):=by
   have:=sE.drop (n:=k) (by rw[af];simp;omega);rw[j3,<-wU]at this;exact this
  have hv2:¬cQ (fK (.slice a1 (q.length -i) c1) 1 (some (k:Int)) none) b:=fun h=>hvb1 (eP h);have uH:=(wV.ax (pY.mono (fun _ _ h=>h)|>fun _=>((ae.refl (·=b) H1).put rfl 0 (w8 x).toArray (p:=⟨b,25+u,none⟩) (.inl rfl)).al (p:=⟨b,161,none⟩) (.int .i64 ((u+k:Nat):Int)) (.inl rfl)) (fun k h1 h2=>hv2 (h2▸h1)))
  have hsub:=Nat.sub_sub q.length i k;simp only[go_sem,zS,↓reduceIte,Za,Zb,Zc,reduceCtorEq,aa,hsub]at uH hv2;refine⟨by omega,_,hN,pb.b6 _ _ _ (bS _) (by simp[af,dx hs1 j2];omega),by omega,?_⟩;simp(disch:=omega)only[go_sem,zS,↓reduceIte,Za,Zb,Zc,reduceCtorEq,aa,sF.cell,sF.cE,da hs1 dU,IntWalk.i64_in,ew,nh.cell,nh.cE,hsub];refine nJ (fun h=>?_) (fun h=>?_)
  ·have hf:u+k=136:=by
    have:((u+k:Nat):Int)=136:=by simpa using h
    omega
   have mr:Src (al (bE H1 (some ⟨b,25+u,none⟩) 0 (w8 x).toArray) ⟨b,161,none⟩ (.int .i64 ((u+k:Nat):Int))) b 25 (bA fb u x):=fun i hi=>by
    rw[nh.cell,lf hs1 dU i hi]
   refine(ha b (bz p') _ b 25 136 (bA fb u x) hs1 _ nh p6 (hG.mq pY p6) mr (fun _=>by omega)).mono ?_;rintro v H4 ⟨rfl,h4,qG⟩;have vv:(aS (bz p') (bA fb u x)).length=25:=by rw[cu];exact hs1
   change Bl H4 b (aH (aS (bz p') (bA fb u x)) (bA fb u x) ((u+k:Nat):Int) _)at h4
   have h5:=h4.al 161 (.int .i64 0);rw[eX vv dU]at h5;have rB:ae (·=b) (al (bE H1 (some ⟨b,25+u,none⟩) 0 (w8 x).toArray) ⟨b,161,none⟩ (.int .i64 ((u+k:Nat):Int))) (al H4 ⟨b,161,none⟩ (.int .i64 0)):=qG.al _ (.inl rfl);have wW:bA fb u x=aA p'++x:=by
    unfold bA;rw[rE,hxl,hf,List.drop_of_length_le (by omega),List.append_nil]
   have wX:bz (p'++x)=aS (bz p') (bA fb u x):=by rw[k9 _ _ (by omega),wW]
   have hm:(p'++x).length % 136=0:=by simp;omega
   simp(disch:=omega)only[go_sem,zS,↓reduceIte,Za,Zb,Zc,reduceCtorEq,aa,h4.cell,h4.cE,da vv dU];refine⟨q.length -(i+k),by omega,i+k,_,_,by omega,rfl,rfl,uH.ax rB (fun k h1 h2=>hv2 (h2▸h1)),hv2,?_,pY.trans rB⟩
   ·rw[vu];refine⟨bA fb u x,dU,?_,?_⟩
    ·rw[hm,iI _ _ (by omega)];rfl
    ·rw[hm,wX];exact h5
  ·have hf:u+k<136:=by
    have:¬((u+k:Nat):Int)=136:=by simpa using h
    omega
   have hm:(p'++x).length % 136=u+k:=by simp;omega
   refine⟨q.length -(i+k),by omega,i+k,_,_,by omega,rfl,rfl,uH,hv2,?_,pY⟩
   ·rw[vu];refine⟨bA fb u x,dU,?_,?_⟩
    ·rw[hm,jf _ _ (by omega),<-rE,<-hxl];exact lg _ _ _ (by omega)
    ·rw[hm,mu _ _ (by omega)];exact nh
 ·have:q.length=i:=by omega
  subst this;rw[List.take_length]at uG;subst uG;exact⟨⟨fb,j2,rE,pb⟩,iR⟩
end Go.Mg
