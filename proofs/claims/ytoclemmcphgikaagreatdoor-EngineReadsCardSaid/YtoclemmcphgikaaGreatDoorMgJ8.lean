/- Lemmas of ours. No conditions. -/
import Derived.Test.YtoclemmcphgikaaGreatDoorMgE5
import Derived.Test.YtoclemmcphgikaaGreatDoorMgJ1
import Derived.Test.YtoclemmcphgikaaGreatDoorMgX9
open Nat renaming reduceEqDiff→Za,reduceAdd→Zb,reduceMul→Zc,reduceLeDiff→Zd,reduceLT→Ze
open Int renaming reduceBEq→Zf,reduceBNe→Zg,reduceLE→Zh,reduceLT→Zi
set_option linter.all false
set_option maxRecDepth 100000
namespace Go.Mg
open Go Go.RowKit
def Ij (ι:aG):S:=
 kY [kC 2 (kZ)] (.seq (kY [kA 6 0,kV 7 (.m (.eqn .ptr false (.t 6)))] (.ite (.v 7) (kY [kC 2 (kZ)] .ret) .skip)) (kY [.e (.t 8) (.call (ι.f 55) []),kB 3 8] (kY [kA 9 3,kA 10 0,kU 11 (.nil (.t 10)),kU 12 (.fa 0 (.t 11)),kN 13 5 12,.e (.t 14) (.call (ι.f 348) [.t 13]),.e (.t 15) (.call (ι.f 58) [.t 9,.t 14])] (kY [kA 16 3,kA 17 0,kU 18 (.nil (.t 17)),kU 19 (.fa 6 (.t 18)),kD 20 19,kL 21 20,kU 22 (.ii .u64 (.t 21)),.e (.t 23) (.call (ι.f 57) [.t 16,.t 22])] (.seq (kY [kA 24 0,kU 25 (.nil (.t 24)),kU 26 (.fa 6 (.t 25)),kV 27 (.ld (.t 26)),kO 28 27,kC 29 (.int .i64 0)] (.blk 0 (.loop (kY [kH 30 29 28] (.seq (.ite (.v 30) .skip (.exit 0)) (.seq (.blk 1 (kY [kA 31 29,kK 32 1 27 29,kD 33 32,kB 4 31,kB 5 33] (kY [kA 34 3,kA 35 0,kU 36 (.nil (.t 35)),kU 37 (.fa 5 (.t 36)),kD 38 37,kA 39 4,kI 40 1 38 39,kN 41 1 40,.e (.t 42) (.call (ι.f 340) [.t 34,.t 41])] (.reg [kA 43 3,kA 44 5,kU 45 (.ii .u64 (.t 44)),.e (.t 46) (.call (ι.f 57) [.t 43,.t 45])])))) (.reg [ke 47 29,kB 29 47]))))))) (kY [kA 48 3,.e (.t 49) (.call (ι.f 60) [.t 48]),kB 2 49] .ret))))))
def Ik:List RV:=[.t 2]
structure UsR (el:List (Nat->Bool)) (st:List Int) (us:List BN):Prop where
 len:us.length=el.length
 set:∀k (h:k<us.length),∀n,bH us[k].1 n=el.getD k (fun _=>false) n
 stf:st=sq us
 ok:∀x∈us,rD x
variable {us:List BN} {C w:Nat} {N:Nat->Prop} {l:List UInt8} {A:Hp} {P:Program}
theorem UsR.rE {el:List (Nat->Bool)} {st:List Int} (h:UsR el st us):el=rE us:=by
 refine List.ext_getElem (by rw[Mg.rE,List.length_map,h.len]) fun k h1 h2=>?_;have hk:k<us.length:=by rw[h.len];exact h1
 funext n
 have:=h.set k hk n;rw[List.getD_eq_getElem?_getD,List.getElem?_eq_getElem h1,Option.getD_some]at this;rw[<-this];exact(congrFun (List.getElem_map (fun x:BN=>bH x.1)) n).symm
theorem kq.apart {N':Nat->Prop} {A':Hp} (h:kq C N w l A) (hk:af (fun _=>False) A A') (hN:∀q,N' q->A.size<=q):kq C N' w l A':=by
 obtain⟨F,h1,h2⟩:=h;exact⟨F,h1.ai hk (by simp),fun q hq=>⟨(h2 q hq).1,fun hn=>by have:=hN q hn;have:=h1.bound q hq;omega⟩⟩
theorem kq.bts {j:FuncId} (hs:fq P j) {m:List UInt8} {x:Value} (h:kq C N w l A) (hN:∀q,N q->q<A.size) (hC:C<=A.size) (hx:aO A x (w8 m)) (hxN:∀q,aT x q->N q) (hl:l.length+m.length<=80000000) {K:Value->Hp->Prop}
  (hK:∀A',kq C N w (l++dw m) A'->af (WrW C N) A A'->K (.tuple #[]) A'):an P j #[.pointer (some ⟨w,0,none⟩),x] A K:=by
 obtain⟨F,h1,h2⟩:=h;refine(hs F w l m x A h1 hx (fun q hq hf=>(h2 q hf).2 (hxN q hq)) hl).mono ?_;rintro r A' ⟨rfl,h',hk⟩;obtain⟨a,b⟩:=kq.step (l:=l) h2 hN hC h' hk;exact hK A' a b
theorem BU (hl:us.length<=10) (h:∀x∈us,rD x) (i:Nat):(du us.length++(us.take i).flatMap ic).length<=700:=by
 have h1:=aP us.length (by omega);have h2:=jy (e:=ic) (c:=60) (l:=us.take i) fun x hx=>by
  obtain⟨a,b,c,d⟩:=h x (List.mem_of_mem_take hx);have q1:=aP x.1.length (by omega);have q2:=aP x.2 (by omega);simp only[ic,dw,List.length_append];omega
 have h3:(us.take i).length<=10:=by rw[List.length_take];omega
 rw[List.length_append];have:=Nat.mul_le_mul_left 60 h3;omega
def wF (P:Program) (ι:aG) (k:FuncId):Prop:=∀(F:cf) (el:List (Nat->Bool)) (st:List Int) (us:List BN) (rb:Nat) (H:Hp),bg ι H->dI H rb F el st->nD F=true->UsR el st us->el.length<=10→
 an P k #[.pointer (some ⟨rb,0,none⟩)] H fun r H'=>bq H' r (w8 (ie F us))/\(∀q,ax r q->H.size<=q)/\af (fun _=>False) H H'
structure afs (P:Program) (ι:aG):Prop where
 fbyt:pO P ι (ι.f 348)
 new:v7 P (ι.f 55)
 byt:fq P (ι.f 58)
 uint:gJ P (ι.f 57)
 set:mb P (ι.f 340)
 out:we P (ι.f 60)
theorem We {ι:aG} {k:FuncId} (hk:al P k (Ij ι) Ik 1) (c:afs P ι):wF P ι k:=by
 intro F el st us rb H hT hR hok hU hn;refine qI fun Q hQ=>?_;have hE:=mK (gh hok);obtain⟨s,b,d,a,m,ev,sv,vs,B,hF,he,hel,LA,hes,hsv⟩:=hR;have hul:=hU.len;have hst:st.length=us.length:=by rw[hU.stf];simp[sq]
 have lsv:aU sv=us.length:=by rw[hsv.len,aA,hst]
 refine ah hk (args:=[_]) (by simp) ?_;unfold Ij Ik kA kB kC kD ke kH kI kK kL kN kO kU kV kY kZ;simp only[go_sem,Za,Zb];refine(c.new H).mono ?_;rintro r H1 ⟨rfl,W1,K1⟩;have s1:=K1.size;have B1:=K1.bl B (by simp);have l5:aR H1 ⟨rb,0,none⟩ 5=some #[s,b,d,a,m]:=by
  have:=B1.aR (o:=0) (n:=5) (by simp);simpa using this
 have ltr:=B.lt;have w1:=W1.bound _ rfl;generalize hw:H.size=w at*;have I1:kq w (fun _=>False) w [] H1:=⟨_,W1,fun q hq=>⟨by omega,fun h=>h⟩⟩
 rw[ae];simp only[go_sem,Za,Zb,l5,aC];refine(c.fbyt F _ H1 (hT.ai K1) (hF.aj K1) hok).mono ?_;rintro r H2 ⟨O2,o2,K2⟩;have s2:=K2.size;have dB:=K1.trans K2;have I2:=I1.apart (N':=aT r) K2 fun q hq=>o2 q (O2.aT hq);rw[ae];simp only[go_sem,Za,Zb];refine I2.bts c.byt (fun q hq=>O2.sl.bj hq) (by omega) O2.sl (fun q h=>h) (by simp;omega) fun H3 I3 K3=>?_;have kp:∀{A A':Hp} {N:Nat->Prop},af (WrW w N) A A'->af (fun q=>w<=q) A A':=fun h=>h.mono fun q _ hq=>hq.1;have K3:=kp K3;have s3:=K3.size;have bj:∀{A':Hp},af (fun q=>w<=q) H3 A'->af (fun _=>False) H A':=fun K=>(dB.trans' K3 fun q hq e=>by omega).trans' K fun q hq e=>by omega
 have gg:=bj (af.refl _ _);have B3:=gg.bl B (by simp);have c6:cell H3 ⟨rb,6,none⟩=some sv:=by rw[B3.cell];rfl
 have I3:=I3.mono (N':=fun _=>False) fun q h=>h.elim;rw[List.nil_append]at I3;have leB:(dw (df F)).length<=20000:=by
  have:=aP (df F).length (by omega);simp only[dw,List.length_append];omega
 rw[ae];simp only[go_sem,Za,Zb,c6,hsv.aq,lsv,kr (show(0:Int)<=(us.length:Int) by omega) (show(us.length:Int)<=1000000 by omega),Int.toNat_natCast];refine I3.uint c.uint (by simp) (by omega) (by omega) (by omega) fun H4 I4 K4=>?_;have K4:=kp K4;have B4:=(bj K4).bl B (by simp);have c6:cell H4 ⟨rb,6,none⟩=some sv:=by rw[B4.cell];rfl
 rw[ae];simp only[go_sem,Za,Zb,c6,hsv.aq,lsv];refine aD us.length [30,4,5,29] rfl rfl (by omega) (by rfl) (by rfl) (fun i g A=>kq w (fun _=>False) w (dw (df F)++(du us.length++(us.take i).flatMap ic)) A/\af (fun q=>w<=q) H3 A) ⟨by simpa using I4,K4⟩ ?_ ?_
 ·rintro i g A hi gi gn ⟨I,K⟩;simp only[go_sem,Za,Zb,ae]at gi gn;have KH:=bj K;have sA:=K.size;have BA:=KH.bl B (by simp);have c5:cell A ⟨rb,5,none⟩=some ev:=by rw[BA.cell];rfl
  obtain⟨pb,po,pc,qm,hci⟩:=(hsv.ai KH (by simp)).iat (i:=i) (by omega);obtain⟨qb,qo,qc,hee,hld⟩:=(he.ai KH (by simp)).ld1 (i:=i) (by omega);have hx:=hU.ok _ (List.getElem_mem hi);have hsi:st[i]'(by omega)=((us[i].2:Nat):Int):=by
   have:=hU.stf;subst this;simp[sq]
  rw[hsi]at hci;have hb:=BU (by omega) hU.ok i;have hS:=(hes i (by omega)).aj KH;rw[hee]at c5;rw[hst]at qm;rw[hel]at hee c5;simp only[go_sem,Za,Zb,gi,qm,ak,hci,c5,hld,aC];refine⟨by omega,by omega,?_⟩;refine I.set c.set (by simp) (by omega) hS hx.1 (hU.set i hi) (by rw[List.length_append];omega) fun A1 I1 K1=>?_;rw[ae];simp only[go_sem,Za,Zb,kr (show(0:Int)<=((us[i].2:Nat):Int) by omega) (show((us[i].2:Nat):Int)<=1000000 by have:=hx.2.2.2;omega),Int.toNat_natCast];have sA1:=K1.size;have le1:(dw us[i].1).length<=60:=by
   have:=aP us[i].1.length (by have:=hx.2.1;omega);simp only[dw,List.length_append];have:=hx.2.1;omega
  refine I1.uint c.uint (by simp) (by omega) (by have:=hx.2.2.2;omega) (by rw[List.length_append,List.length_append];omega) fun A2 I2 K2=>?_;rw[ae];simp only[go_sem,Za,Zb,ae];refine⟨?_,(K.trans (kp K1)).trans (kp K2)⟩;rw[dh _ hi,ic];simpa only[List.append_assoc]using I2
 ·rintro g A -⟨I,K⟩;rw[List.take_length]at I;have sA:=K.size;have hb:=BU (by omega) hU.ok us.length;rw[List.take_length]at hb;obtain⟨Fw,W,hFw⟩:=I;simp only[go_sem,Za,Zb];refine(c.out Fw w _ A W (by rw[List.length_append];omega)).mono ?_;rintro r A1 ⟨O,o,K1⟩;rw[ae];simp only[go_sem,Za,Zb,ae];rw[hQ];exact⟨O,fun q hq=>by have:=o q hq;omega,(bj K).trans K1⟩
end Go.Mg
namespace Go.Mg
open Go Go.RowKit
def BV (ι:aG):S:=
 kY [kR 1 (ι.t 396) 0,kC 2 (kZ)] (kY [kG 6 0 1,kN 7 5 6,.e (.t 8) (.call (ι.f 349) [.t 7]),.e (.t 9) (.call (ι.f 62) [.t 8]),kB 3 9] (kY [kA 10 3,kG 11 6 1,kD 12 11,kL 13 12,kU 14 (.ii .u64 (.t 13)),.e (.t 15) (.call (ι.f 61) [.t 14]),.e (.t 16) (.app false (ι.t 19) 1 1 #[.int .u8 0] (.t 10) (.t 15)),kB 3 16] (.seq (kY [kG 17 6 1,kV 18 (.ld (.t 17)),kO 19 18,kC 20 (.int .i64 0)] (.blk 0 (.loop (kY [kH 21 20 19] (.seq (.ite (.v 21) .skip (.exit 0)) (.seq (.blk 1 (kY [kA 22 20,kK 23 1 18 20,kD 24 23,kB 4 22,kB 5 24] (kY [kA 25 3,kG 26 5 1,kD 27 26,kA 28 4,kI 29 1 27 28,kD 30 29,.e (.t 31) (.call (ι.f 282) [.t 30]),.e (.t 32) (.call (ι.f 347) [.t 31]),.e (.t 33) (.app false (ι.t 19) 1 1 #[.int .u8 0] (.t 25) (.t 32)),kB 3 33] (.reg [kA 34 3,kA 35 5,kU 36 (.ii .u64 (.t 35)),.e (.t 37) (.call (ι.f 61) [.t 36]),.e (.t 38) (.app false (ι.t 19) 1 1 #[.int .u8 0] (.t 34) (.t 37)),kB 3 38])))) (.reg [ke 39 20,kB 20 39]))))))) (kY [kA 40 3,kB 2 40] .ret))))
def Ca:List RV:=[.t 2]
def Rr (ms:List UInt64) (st:List Int):List BN:=(List.range st.length).map fun k=>(j0 (ms.getD k 0),(st.getD k 0).toNat)
theorem pQ (ms:List UInt64) (st:List Int):(Rr ms st).length=st.length:=by simp[Rr]
variable {ms:List UInt64} {st:List Int}
theorem wG {k:Nat} (h:k<(Rr ms st).length):(Rr ms st)[k]=(j0 (ms.getD k 0),(st.getD k 0).toNat):=by simp[Rr]
theorem Rs (h:∀u∈st,0<=u/\u<=256):∀x∈Rr ms st,rD x:=by
 intro x hx;obtain⟨k,hk,rfl⟩:=List.getElem_of_mem hx;rw[pQ]at hk;rw[wG];have hs:=h (st.getD k 0) (by rw[List.getD_eq_getElem?_getD,List.getElem?_eq_getElem hk];exact List.getElem_mem _);have hl:=mg (ms.getD k 0);refine⟨mf _,(by show(j0 _).length<=33;omega),fun n hn=>?_,(by show(st.getD k 0).toNat<=256;omega)⟩;rw[dP]at hn;have:=rV hn;omega
theorem acG (hl:ms.length=st.length) (h:∀u∈st,0<=u/\u<=256):UsR (ms.map bt) st (Rr ms st):=by
 refine⟨by rw[pQ,List.length_map,hl],fun k hk n=>?_,?_,Rs h⟩
 ·rw[wG,dP,cR]
 ·refine List.ext_getElem (by simp[sq,pQ]) fun k h1 h2=>?_;have hs:=h st[k] (List.getElem_mem _);simp only[sq,List.getElem_map,wG];rw[List.getD_eq_getElem?_getD,List.getElem?_eq_getElem h1,Option.getD_some];omega
def rK (P:Program) (k:FuncId):Prop:=∀(F:cf) (ms:List UInt64) (st:List Int) (v:Value) (H:Hp),dY H v F ms st->nD F=true->ms.length=st.length->st.length<=10->(∀u∈st,0<=u/\u<=256)->an P k #[v] H fun r H'=>bq H' r (w8 (ie F (Rr ms st)))/\(∀q,ax r q->H.size<=q)/\af (fun _=>False) H H'
structure acH (P:Program) (ι:aG):Prop where
 fb:nO P (ι.f 349)
 aaD:js P (ι.f 62)
 put:jY P (ι.f 61)
 aaE:me P (ι.f 347)
 mem:mD P (ι.f 282)
theorem Rt {P:Program} {ι:aG} {k:FuncId} (hk:al P k (BV ι) Ca 1) (c:acH P ι):rK P k:=by
 intro F ms st v H hv hok nQ hn hst;refine qI fun Q hQ=>?_;have hE:=gh hok;have hF:=mK hE;have hus:=Rs (ms:=ms) hst;have hul:=pQ ms st;obtain⟨s,b,d,a,m,ev,sv,rfl,h1,h2,h3⟩:=hv;refine ah hk (args:=[_]) (by simp) ?_;unfold BV Ca kA kB kC kD ke kG kH kI kK kL kN kO kR kU kV kY kZ;simp only[go_sem,Za,Zb];refine ay fun H1 b1 e1 z1 B1 K1=>?_;have bQ:Bl H1 b1 [s,b,d,a,m,ev,sv]:=B1;have s1:=K1.size;have l5:aR H1 ⟨b1,0,none⟩ 5=some #[s,b,d,a,m]:=by
  have:=bQ.aR (o:=0) (n:=5) (by simp);simpa using this
 simp only[go_sem,Za,Zb,l5,aC];refine(c.fb F _ H1 (h1.aj K1) hE).mono ?_;rintro r H2 ⟨O2,o2,K2⟩;rw[ae];simp only[go_sem,Za,Zb];refine(c.aaD _ r H2 O2.sl (by omega)).mono ?_;rintro r2 H3 ⟨O3,o3,K3⟩;have lF:=K2.trans K3;have s2:=K2.size;have s3:=K3.size;obtain⟨C,hC⟩:∃C,C=H1.size:=⟨_,rfl⟩
 have WZ:b1<C:=by omega
 have I3:xj C H1 r2 (dw (df F)) H3:=⟨O3,fun q hq=>by have:=o3 q hq;omega,lF.any⟩
 have bj:∀{A':Hp} {v:Value} {l:List UInt8},xj C H1 v l A'->af (fun _=>False) H A':=fun I=>K1.trans' I.k fun q hq e=>by omega
 have bl1:∀{A':Hp} {v:Value} {l:List UInt8},xj C H1 v l A'->Bl A' b1 [s,b,d,a,m,ev,sv]:=fun I=>I.k.bl bQ (by omega);have sz:∀{A':Hp} {v:Value} {l:List UInt8},xj C H1 v l A'->C<=A'.size:=fun I=>by have:=I.k.size;omega
 have c6:∀{A:Hp},Bl A b1 [s,b,d,a,m,ev,sv]->cell A ⟨b1,6,none⟩=some sv:=fun B=>by rw[B.cell];rfl
 have leB:(dw (df F)).length<=20000:=by
  have:=aP (df F).length (by omega);simp only[dw,List.length_append];omega
 rw[ae];simp only[go_sem,Za,Zb,c6 (bl1 I3),h3.aq,h3.len,aA,kr (show(0:Int)<=(st.length:Int) by omega) (show(st.length:Int)<=1000000 by omega),Int.toNat_natCast];refine(c.put st.length H3 (by omega)).mono ?_;rintro r4 H4 ⟨O4,o4,K4⟩;have I4:=I3.aj K4;have le4:=aP st.length (by omega);rw[ae];simp only[go_sem,Za,Zb];refine I4.app (sz I4) O4 (by omega) fun v5 H5 I5 L5 o5=>?_;rw[ae];simp only[go_sem,Za,Zb,c6 (bl1 I5),h3.aq,h3.len,aA];refine aD st.length [21,4,5,3,20] rfl rfl (by omega) (by rfl) (by rfl) (fun i g A=>∃v,g 3=v/\xj C H1 v (dw (df F)++(du (Rr ms st).length++((Rr ms st).take i).flatMap ic)) A) ⟨v5,by simp only[go_sem,Za,Zb,ae],by simpa[hul]using I5⟩ ?_ ?_
 ·rintro i g A hi gi gn ⟨v3,g3,I⟩;simp only[go_sem,Za,Zb,ae]at gi gn g3;have KH:=bj I;have BA:=bl1 I;obtain⟨pb,po,pc,qm,hci⟩:=fB (h3.ai KH (by simp)) hi;obtain⟨qb,qo,qc,hee,hce⟩:=Rm (h2.ai KH (by simp)) (i:=i) (by omega);have c5:cell A ⟨b1,5,none⟩=some ev:=by rw[BA.cell];rfl
  rw[hee]at c5;have hb:=BU (by omega) hus i;have hx:=hst (st.getD i 0) (by rw[List.getD_eq_getElem?_getD,List.getElem?_eq_getElem hi];exact List.getElem_mem _);obtain⟨x,hxd⟩:∃x,x=ms.getD i 0:=⟨_,rfl⟩
  rw[<-hxd]at hce;simp only[go_sem,Za,Zb,gi,g3,qm,ak,hci,c5,hce,nQ];refine⟨by omega,by omega,?_⟩;refine(c.mem x A).mono ?_;rintro r6 A1 ⟨O6,o6,K6⟩;have hle:((List.range 64).filter (bt x)).length<=64:=by
   have:=List.length_filter_le (bt x) (List.range 64);simp at this;omega
  have J1:=I.aj K6;rw[ae];simp only[go_sem,Za,Zb];refine(c.aaE _ (j0 x) r6 A1 O6.sl (by omega) (fun n hn=>by have:=(List.mem_filter.1 hn).1;rw[List.mem_range]at this;omega) (mf _) fun n=>?_).mono ?_
  ·rw[dP,Bool.eq_iff_iff,decide_eq_true_eq,List.mem_filter,List.mem_range];exact⟨fun h=>⟨rV h,h⟩,fun h=>h.2⟩
  rintro r7 A2 ⟨O7,o7,K7⟩;have J2:=J1.aj K7;have hsl:=mg x;have le7:(dw (j0 x)).length<=19:=by
   have:=aP (j0 x).length (by omega);simp only[dw,List.length_append];omega
  rw[ae];simp only[go_sem,Za,Zb];refine J2.app (sz J2) O7 (by simp only[List.length_append]at hb⊢;omega) fun v8 A3 J3 L3 o8=>?_;have w1:IntKind.u64.wrap (st.getD i 0)=(((st.getD i 0).toNat:Nat):Int):=kr hx.1 (by omega);rw[ae];simp only[go_sem,Za,Zb,w1];refine(c.put _ A3 (by omega)).mono ?_;rintro r9 A4 ⟨O9,o9,K9⟩;have J4:=J3.aj K9;have le9:=aP (st.getD i 0).toNat (by omega);rw[ae];simp only[go_sem,Za,Zb];refine J4.app (sz J4) O9 (by simp only[List.length_append]at hb⊢;omega) fun v10 A5 J5 L5 o10=>?_;rw[ae];simp only[go_sem,Za,Zb,ae];refine⟨v10,rfl,?_⟩;rw[dh _ (by omega),wG,ic];simpa only[List.append_assoc,hxd]using J5
 ·rintro g A gi ⟨v3,g3,I⟩;simp only[go_sem,Za,Zb,ae]at g3;simp only[go_sem,Za,Zb,ae,g3];rw[hQ];rw[<-hul,List.take_length]at I;exact⟨I.o,fun q hq=>by have:=I.n q hq;omega,bj I⟩
end Go.Mg
namespace Go.Mg
open Go Go.RowKit
def Il (ι:aG):S:=
 kY [kC 2 (.bool false)] (.seq (kY [kA 7 0,kU 8 (.nil (.t 7)),kU 9 (.fa 0 (.t 8)),kU 10 (.fa 1 (.t 9)),kV 11 (.ld (.t 10)),kO 12 11,kC 13 (.int .i64 0)] (.blk 0 (.loop (kY [kH 14 13 12] (.seq (.ite (.v 14) .skip (.exit 0)) (.seq (.blk 1 (kY [kK 15 2 11 13,kN 16 2 15,.e (.v 4) (.new (ι.t 194) #[.int .i64 0,.int .i64 0]),.e .no (.stn 2 (.v 4) (.t 16))] (kY [kA 17 0,kU 18 (.nil (.t 17)),kU 19 (.fa 6 (.t 18)),kD 20 19,kP 21 2 1 4 1,kD 22 21,kI 23 1 20 22,kD 24 23,kU 25 (.cm .neq .i64 (.t 24) (.c (.int .i64 0))),kF 26 25,kS 27 26 true 0,kT 28 26 true (.nil (.t 27)),kT 29 26 true (.fa 6 (.t 28)),kT 30 26 true (.ld (.t 29)),kT 31 26 true (.ia 2 1 (.v 4) (.c (.int .i64 0))),kT 32 26 true (.ld (.t 31)),kT 33 26 true (.is 1 (.t 30) (.t 32)),kT 34 26 true (.ld (.t 33)),kT 35 26 true (.cm .eql .i64 (.t 34) (.c (.int .i64 0))),kV 36 (.pick (.t 26) (.t 35) (.c (.bool false)))] (.ite (.v 36) (kY [kC 2 (.bool false)] .ret) .skip)))) (.reg [ke 37 13,kB 13 37]))))))) (kY [kA 39 0,kA 40 0,kU 41 (.nil (.t 40)),kU 42 (.fa 6 (.t 41)),kD 43 42,.e (.t 44) (.call (ι.f 377) [.t 39,.t 43]),kF 38 44,kQ 45 38 0,kQ 46 38 1,kF 5 45,kB 6 46] (kY [kA 47 6,kB 2 47] .ret)))
def Im:List RV:=[.t 2]
def rL (ι:aG):T:=
 (.wcons (.t 33) .none (.app false (ι.t 128) 1 24 #[kZ] (.t 29) (.t 32)) (kW 34 (.nil (.t 25)) (kW 35 (.fa 5 (.t 34)) (.wcons .no .none (.st (.t 35) (.t 33)) .done .wnil))) .wnil)
def rM (ι:aG):T:=
 (.wcons (.t 44) .none (.app false (ι.t 26) 1 8 #[.int .i64 0] (.t 40) (.t 43)) (kW 45 (.nil (.t 36)) (kW 46 (.fa 6 (.t 45)) (.wcons .no .none (.st (.t 46) (.t 44)) .done .wnil))) .wnil)
def Cb (ι:aG):S:=
 (.dr (kW 25 (.mv (.v 7)) (kW 26 (.mv (.v 7)) (kW 27 (.nil (.t 26)) (kW 28 (.fa 5 (.t 27)) (kW 30 (.mv (.v 4)) (.wcons (.t 29) .none (.rd (.ld (.t 28))) (.wcons (.t 31) .none (.call (ι.f 343) [.t 30,.c (.int .i64 256)]) (.wcons (.t 32) .none (.aV (ι.t 128) 1 1 [.t 31]) (rL ι) .wnil) .wnil) (.wcons (.t 31) .none (.call (ι.f 343) [.t 30,.c (.int .i64 256)]) (.wcons (.t 29) .none (.rd (.ld (.t 28))) (.wcons (.t 32) .none (.aV (ι.t 128) 1 1 [.t 31]) (rL ι) .wnil) (.wcons (.t 32) .none (.aV (ι.t 128) 1 1 [.t 31]) (.wcons (.t 29) .none (.rd (.ld (.t 28))) (rL ι) .wnil) .wnil)) .wnil))))))))
def Cc (ι:aG):S:=
 (.dr (kW 36 (.mv (.v 7)) (kW 37 (.mv (.v 7)) (kW 38 (.nil (.t 37)) (kW 39 (.fa 6 (.t 38)) (kW 41 (.mv (.v 4)) (.wcons (.t 40) .none (.rd (.ld (.t 39))) (.wcons (.t 42) .none (.call (ι.f 342) [.t 41,.c (.int .i64 256)]) (.wcons (.t 43) .none (.aV (ι.t 26) 1 1 [.t 42]) (rM ι) .wnil) .wnil) (.wcons (.t 42) .none (.call (ι.f 342) [.t 41,.c (.int .i64 256)]) (.wcons (.t 40) .none (.rd (.ld (.t 39))) (.wcons (.t 43) .none (.aV (ι.t 26) 1 1 [.t 42]) (rM ι) .wnil) (.wcons (.t 43) .none (.aV (ι.t 26) 1 1 [.t 42]) (.wcons (.t 40) .none (.rd (.ld (.t 39))) (rM ι) .wnil) .wnil)) .wnil))))))))
def XL (ι:aG):S:=
 (.seq (.seq (.dr (kW 48 (.mv (.v 4)) (.wcons (.t 49) .none (.call (ι.f 117) [.t 48]) (kW 50 (.cm .neq .i64 (.t 49) (.c (.int .i64 0))) (kW 51 (.mv (.t 50)) (.px (.t 52) (.some (.t 51,false)) (.mv (.v 6)) (.px (.t 53) (.some (.t 51,false)) (.cm .neq .i64 (.t 52) (.c (.int .i64 0))) (kW 54 (.pick (.t 51) (.c (.bool true)) (.t 53)) (kW 55 (.mv (.t 54)) (.px (.t 56) (.some (.t 55,false)) (.mv (.v 7)) (.px (.t 57) (.some (.t 55,false)) (.nil (.t 56)) (.px (.t 58) (.some (.t 55,false)) (.fa 6 (.t 57)) (.px (.t 59) (.some (.t 55,false)) (.ld (.t 58)) (.px (.t 60) (.some (.t 55,false)) (.m (.lenl (.t 59))) (.px (.t 61) (.some (.t 55,false)) (.fa 0 (.v 5)) (.px (.t 62) (.some (.t 55,false)) (.ld (.t 61)) (.px (.t 63) (.some (.t 55,false)) (.m (.lenl (.t 62))) (.px (.t 64) (.some (.t 55,false)) (.cm .neq .i64 (.t 60) (.t 63)) (kW 65 (.pick (.t 55) (.c (.bool true)) (.t 64)) (kW 66 (.mv (.t 65)) (.px (.t 67) (.some (.t 66,false)) (.mv (.v 7)) (.px (.t 68) (.some (.t 66,false)) (.nil (.t 67)) (.px (.t 69) (.some (.t 66,false)) (.fa 5 (.t 68)) (.px (.t 70) (.some (.t 66,false)) (.ld (.t 69)) (.px (.t 71) (.some (.t 66,false)) (.fa 0 (.v 5)) (.px (.t 72) (.some (.t 66,false)) (.ld (.t 71)) (.px (.t 73) (.some (.t 66,false)) (.m (.lenl (.t 72))) (.wcons (.t 74) (.some (.t 66,false)) (.call (ι.f 378) [.t 70,.t 73]) (.px (.t 75) (.some (.t 66,false)) (.cm .neq .i64 (.t 74) (.c (.int .i64 0))) (kW 76 (.pick (.t 66) (.c (.bool true)) (.t 75)) (kW 77 (.mv (.t 76)) (.px (.t 78) (.some (.t 77,false)) (.mv (.v 7)) (.wcons (.t 79) (.some (.t 77,false)) (.call (ι.f 421) [.t 78]) (.px (.t 80) (.some (.t 77,false)) (.not (.t 79)) (kW 81 (.pick (.t 77) (.c (.bool true)) (.t 80)) (kW 82 (.mv (.t 81)) (.px (.t 83) (.some (.t 82,false)) (.mv (.v 7)) (.px (.t 85) (.some (.t 82,false)) (.mv (.v 0)) (.wcons (.t 84) (.some (.t 82,false)) (.call (ι.f 414) [.t 83]) (.wcons (.t 86) (.some (.t 82,false)) (.call (ι.f 344) [.t 84,.t 85]) (.px (.t 87) (.some (.t 82,false)) (.not (.t 86)) (kX 88 (.pick (.t 82) (.c (.bool true)) (.t 87)) .done)) .wnil) .wnil)))))) .wnil))))) .wnil))))))))))))))))))))))))) .wnil))) (.ite (.v 88) (kY [kC 2 (.pointer .none),kC 3 (.int .i64 6)] .ret) .skip)) (kY [kA 89 7,kB 2 89,kC 3 (.int .i64 0)] .ret))
def Cd (ι:aG):S:=
 kY [kC 2 (.pointer .none),kC 3 (.int .i64 0)] (kY [kA 8 0,.e (.t 9) (.call (ι.f 108) [.t 8]),kB 4 9] (kY [kA 11 4,kA 12 0,kL 13 12,.e (.t 14) (.call (ι.f 114) [.t 11,.t 13]),.e (.t 15) (.call (ι.f 351) [.t 14]),kF 10 15,kQ 16 10 0,kQ 17 10 1,.e (.v 5) (.new (ι.t 296) #[kZ,kZ,kZ,kZ,kZ]),.e .no (.stn 5 (.v 5) (.t 16)),kB 6 17] (kY [kM 18 5 5,kU 19 (.m (.bld #[kZ,kZ,kZ,kZ,kZ,kZ,kZ] [(0,(5,.t 18))])),.e (.t 20) (.box (ι.t 387) (.t 19)),kB 7 20] (.seq (kY [kA 21 4,.e (.v 22) (.call (ι.f 113) [.t 21,.c (.int .i64 10)]),kC 23 (.int .i64 0)] (.blk 0 (.loop (kY [kH 24 23 22] (.seq (.ite (.v 24) .skip (.exit 0)) (.seq (.blk 1 (.seq (Cb ι) (Cc ι))) (.reg [ke 47 23,kB 23 47]))))))) (XL ι)))))
def Ce:List RV:=[.t 2,.t 3]
def Eu (P:Program) (ι:aG) (k:FuncId):Prop:=∀(F:cf) (el:List (Nat->Bool)) (st:List Int) (rb:Nat) (H:Hp),bg ι H->dI H rb F el st->nD F=true->st.length=el.length->ff (bW F el)->Ay (bW F el) st→
 an P k #[.pointer (some ⟨rb,0,none⟩)] H fun r H'=>r=.bool (AU F.be st&&(en (bW F el) st).isSome)/\af (fun _=>False) H H'
theorem Wf {P:Program} {ι:aG} {k:FuncId} (hk:al P k (Il ι) Im 1) (hp:gI P ι (ι.f 377)):Eu P ι k:=by
 intro F el st rb H hT hR hok hsl hG hB;refine qI fun Q hQ=>?_;have LD:=hR;have hgd:=de hok;obtain⟨s,b,d,a,m,ev,sv,vs,B,hF,he,hel,LA,hes,hsv⟩:=hR;have hF0:=hF;obtain⟨s',b',d',a',m',ms,e5,h1,h2,h3,h4,h5,h6⟩:=hF
 cases e5
 have qM:=hgd.lim;unfold iQ at qM;have cl:∀{A:Hp},af (fun _=>False) H A->cell A ⟨rb,1,none⟩=some b/\cell A ⟨rb,6,none⟩=some sv:=fun K=>⟨by rw[(K.bl B (by simp)).cell];rfl,by rw[(K.bl B (by simp)).cell];rfl⟩
 refine ah hk (args:=[_]) (by simp) ?_;unfold Il Im kA kB kF kC kD ke kH kI kK kN kO kP kQ kS kT kU kV kY;simp-implicitDefEqProofs only[go_sem,↓reduceIte,Za,Zb,Zc,reduceCtorEq,Zf,Zg,Zh,Zi,Zd,Ze,(cl (af.refl _ _)).1,h2.aq,h2.len];refine aD F.be.length [14,4,36,2,13] rfl rfl (by omega) (by rfl) (by rfl) (fun i g A=>(F.be.take i).all (fun x=>decide (sI st x.2=0)||decide (sI st x.1≠0))=true/\af (fun _=>False) H A) ⟨by simp,af.refl _ _⟩ ?_ ?_
 ·rintro i g A hi gi gn ⟨hall,K⟩;simp-implicitDefEqProofs only[go_sem,↓reduceIte,Za,Zb,Zc,reduceCtorEq,ae,Zf,Zg,Zh,Zi,Zd,Ze]at gi gn;obtain⟨sb,so,sc,rfl,-,hld⟩:=(h2.aj K).elem eH (i:=i) hi;have hx:=(hgd.be _ (List.getElem_mem hi)).1;obtain⟨x,hxe⟩:∃x,x=F.be[i]:=⟨_,rfl⟩
  rw[<-hxe]at hld hx;obtain⟨p1,p2,p3,p4⟩:=hx;simp-implicitDefEqProofs only[go_sem,↓reduceIte,Za,Zb,Zc,reduceCtorEq,Zf,Zg,Zh,Zi,Zd,Ze,gi,ak,aC,hld];have si:(F.be.take (i+1)).all (fun x=>decide (sI st x.2=0)||decide (sI st x.1≠0))=((F.be.take i).all (fun x=>decide (sI st x.2=0)||decide (sI st x.1≠0))&&(decide (sI st x.2=0)||decide (sI st x.1≠0))):=by
   rw[List.take_succ_eq_append_getElem hi,List.all_append,<-hxe];simp
  have hmem:x∈F.be:=by rw[hxe];exact List.getElem_mem _
  refine⟨by omega,?_⟩;refine aN (pE x) (by rfl) rfl rfl (List.all_eq_true.2 (fX _)) fun A1 b4 e4 z4 B4 K4=>?_;have Pg:=K.trans K4;obtain⟨x1,x2⟩:=x;obtain⟨j1,rfl⟩:∃j:Nat,x1=(j:Int):=⟨x1.toNat,by simp only at p1;omega⟩
  obtain⟨j2,rfl⟩:∃j:Nat,x2=(j:Int):=⟨x2.toNat,by simp only at p3;omega⟩
  simp only at p1 p2 p3 p4;obtain⟨qb,qo,qc,qm,hc2⟩:=fB (hsv.ai Pg (by simp)) (i:=j2) (by omega);obtain⟨qb',qo',qc',Ru,hc1⟩:=fB (hsv.ai Pg (by simp)) (i:=j1) (by omega);have Gx:cell A1 ⟨b4,0,none⟩=some (.int .i64 (j1:Int)):=by rw[B4.cell];rfl
  have Gy:cell A1 ⟨b4,1,none⟩=some (.int .i64 (j2:Int)):=by rw[B4.cell];rfl
  have c6:=(cl Pg).2;rw[qm]at c6 Ru
  cases Ru
  have s1:sI st ((j1:Nat):Int)=st.getD j1 0:=by unfold sI;rw[Int.toNat_natCast]
  have s2:sI st ((j2:Nat):Int)=st.getD j2 0:=by unfold sI;rw[Int.toNat_natCast]
  simp only[s1,s2]at si;have b2:(0:Int)<=(j2:Int)/\(j2:Int)<(st.length:Int):=by omega
  have b1:(0:Int)<=(j1:Int)/\(j1:Int)<(st.length:Int):=by omega
  have b21:=b2.1;have b22:=b2.2;have b11:=b1.1;have b12:=b1.2
  by_cases h2:st.getD j2 0=0
  ·have d2:(st.getD j2 0 !=0)=false:=by rw[h2];rfl
   simp-implicitDefEqProofs only[go_sem,↓reduceIte,Za,Zb,Zc,reduceCtorEq,Zf,Zg,Zh,Zi,Zd,Ze,c6,Gy,ak,hc2,d2,b21,b22];refine⟨?_,Pg⟩;rw[si,hall,decide_eq_true h2];rfl
  have d2:(st.getD j2 0 !=0)=true:=bne_iff_ne.2 h2
  by_cases h1:st.getD j1 0=0
  ·have d1:(st.getD j1 0==0)=true:=by rw[h1];rfl
   simp-implicitDefEqProofs only[go_sem,↓reduceIte,Za,Zb,Zc,reduceCtorEq,Zf,Zg,Zh,Zi,Zd,Ze,c6,Gx,Gy,ak,hc1,hc2,d1,d2,b11,b12,b21,b22];rw[hQ];have:AU F.be st=false:=by
    unfold AU;rw[List.all_eq_false];refine⟨_,hmem,?_⟩;simp only[s1,s2];rw[decide_eq_false h2,decide_eq_false (fun h=>h h1)];simp
   rw[this];exact⟨rfl,Pg⟩
  ·have d1:(st.getD j1 0==0)=false:=by simpa using h1
   simp-implicitDefEqProofs only[go_sem,↓reduceIte,Za,Zb,Zc,reduceCtorEq,Zf,Zg,Zh,Zi,Zd,Ze,c6,Gx,Gy,ak,hc1,hc2,d1,d2,b11,b12,b21,b22];refine⟨?_,Pg⟩;rw[si,hall,decide_eq_true h1];simp
 ·rintro g A -⟨hall,K⟩;rw[List.take_length]at hall;simp-implicitDefEqProofs only[go_sem,↓reduceIte,Za,Zb,Zc,reduceCtorEq,Zf,Zg,Zh,Zi,Zd,Ze,(cl K).2];refine(hp F el st st rb sv A (hT.ai K) (LD.aj K) (hsv.ai K (by simp)) hG hB).mono ?_;rintro r A1 ⟨y,rfl,K1,-⟩;rw[ae];simp-implicitDefEqProofs only[go_sem,↓reduceIte,Za,Zb,Zc,reduceCtorEq,ae,Zf,Zg,Zh,Zi,Zd,Ze];rw[hQ];have:AU F.be st=true:=hall;rw[this,Bool.true_and];exact⟨rfl,K.trans K1⟩
section
variable {P:Program} {W:Nat->Prop} {rb b:Nat} {cs:List Value} {F:Nat->Prop} {A0 A:Hp} {s:RS} {e:Env} {f:Fr} {Q:Fr->Hp->Prop} {t m:T} {d a:Nat} {Y:Hp->Prop}
theorem iv.acI (h:iv rb b cs F Y A0 s A) {T:TypeId} {x u:Value} (he:look e a=x) (hx:x.cells=#[u]) (hK:∀A' bn,iv rb b cs F Y A0 s A'->Bl A' bn [u]->dg P W t ((d,.slice (some ⟨bn,0,none⟩) 1 1)::e) f A' Q) (wR:dg P W m e f A Q):dg P W (.wcons (.t d) none (.aV T 1 1 [.t a]) t m) e f A Q:=by
 rw[dK];refine⟨?_,wR⟩;simp only[EX.wp,List.forall_mem_cons,List.not_mem_nil,false_imp_iff,implies_true,and_true,il,he,hx,List.flatMap_cons,List.flatMap_nil,List.append_nil];have K1:af (fun _=>False) A (A.push (.cells #[u] T)):=(af.refl _ _).push _;refine⟨rfl,K1.any,hK _ _ ⟨h.k.trans K1.any,K1.bl h.B (by simp),h.R.ai K1 (by simp),h.l,h.n,h.st _ _ K1 h.y,h.st⟩ (Bl.cS _ _ _)⟩
end
def ErK (rb b off:Nat) (cs:List Value) (F:Nat->Prop) (s':RS) (x lv:Value) (xs:List Value) (A:Hp) (Y:Value->Hp->Prop) (N:Fr->Hp->Prop) (f:Fr):Prop:=∀A' tH,Bl A' b (cs.set off tH)->bq A' tH (xs++[x])->(∀q,ax tH q->ax lv q\/A.size<=q)->iK F A' rb s'.1 s'.2->af (fun q=>q=b\/q=rb\/ax lv q) A A'->Y tH A'->N f A'
theorem Wg {P:Program} {ι:aG} {f:Fr} {A A':Hp} {e:Env} {rb b C bn:Nat} {cs:List Value} {F:Nat->Prop} {s s':RS} {x lv:Value} {xs:List Value} {Y:Hp->Prop} {Y':Value->Hp->Prop} {N:Fr->Hp->Prop} (hI:EF rb b C cs F s A) (O:bq A lv xs) (o:∀q,ax lv q->C<=q) (hL:xs.length<=100) (hoff:5<cs.length) (hx:x.oneCell'=true)
  (hS:iv rb b cs F Y A s' A') (V5:Bl A' bn [x]) (e0:look e 25=.pointer (some ⟨b,0,none⟩)) (e1:look e 29=lv) (e2:look e 32=.slice (some ⟨bn,0,none⟩) 1 1) (hY:∀tH A2,af (fun q=>q=b\/ax lv q) A' A2->(∀q,ax tH q->ax lv q\/A'.size<=q)->Y A'->Y' tH A2) (hK:ErK rb b 5 cs F s' x lv xs A Y' N f):dg P (qa rb b C) (rL ι) e f A' N:=by
 unfold rL kW kZ;rw[dK];refine⟨?_,trivial⟩;simp only[EX.wp,il,e1,e2];have hs:=hS.k.size;have hC:=hI.hC;have WZ:=hI.bC;have n1:∀q,ax lv q->q≠rb:=fun q hq e=>by have:=o q hq;have:=hI.rC;omega
 refine gU (O.ai hS.k n1) (aO.bl V5 0 1 1 (by omega) (by simp)) (fun y hy=>by simp at hy;subst hy;exact hx) rfl (by unfold maxLen;simp;omega) (by simp;omega) fun v' A1 O1 K1 o1=>?_;have s1:=K1.size;have B1:=K1.bl hS.B fun h=>by have:=o _ h;omega
 have t1:=B1.bu (o:=5) hoff;have K2:af (fun q=>q=b) A1 (az A1 ⟨b,5,none⟩ v'):=(af.refl _ _).az _ (.inl rfl);have fk:af (fun q=>q=b\/ax lv q) A' (az A1 ⟨b,5,none⟩ v'):=(K1.mono fun q _ h=>.inr h).trans (K2.mono fun q _ h=>.inl h);rw[aJ];refine⟨K1.mono fun q _ h=>.inr (.inr (o q h)),?_⟩;simp only[go_sem,Za,Zb,e0,t1];refine⟨aI O1.sl.aq,K2.mono fun q _ h=>.inl h,hK _ v' (B1.az 5 v') (O1.ai K2 fun q hq e=>?_) (fun q hq=>?_) (hS.R.ai fk fun q hq e=>?_) ((hS.k.mono fun q _ e=>.inr (.inl e)).trans (fk.mono fun q _ h=>h.elim .inl fun h=>.inr (.inr h))) (hY v' _ fk o1 hS.y)⟩
 ·rcases o1 q hq with h|h
  ·have:=o q h;omega
  ·omega
 ·rcases o1 q hq with h|h
  ·exact .inl h
  ·exact .inr (by omega)
 ·rcases e with e|e
  ·exact hI.nF (e▸hq)
  ·have:=o q e;have:=hI.FC q hq;omega
theorem Wh {P:Program} {ι:aG} {f:Fr} {A A':Hp} {e:Env} {rb b C bn:Nat} {cs:List Value} {F:Nat->Prop} {s s':RS} {x lv:Value} {xs:List Value} {Y:Hp->Prop} {Y':Value->Hp->Prop} {N:Fr->Hp->Prop} (hI:EF rb b C cs F s A) (O:bq A lv xs) (o:∀q,ax lv q->C<=q) (hL:xs.length<=100) (hoff:6<cs.length) (hx:x.oneCell'=true)
  (hS:iv rb b cs F Y A s' A') (V5:Bl A' bn [x]) (e0:look e 36=.pointer (some ⟨b,0,none⟩)) (e1:look e 40=lv) (e2:look e 43=.slice (some ⟨bn,0,none⟩) 1 1) (hY:∀tH A2,af (fun q=>q=b\/ax lv q) A' A2->(∀q,ax tH q->ax lv q\/A'.size<=q)->Y A'->Y' tH A2) (hK:ErK rb b 6 cs F s' x lv xs A Y' N f):dg P (qa rb b C) (rM ι) e f A' N:=by
 unfold rM kW;rw[dK];refine⟨?_,trivial⟩;simp only[EX.wp,il,e1,e2];have hs:=hS.k.size;have hC:=hI.hC;have WZ:=hI.bC;have n1:∀q,ax lv q->q≠rb:=fun q hq e=>by have:=o q hq;have:=hI.rC;omega
 refine gU (O.ai hS.k n1) (aO.bl V5 0 1 1 (by omega) (by simp)) (fun y hy=>by simp at hy;subst hy;exact hx) rfl (by unfold maxLen;simp;omega) (by simp;omega) fun v' A1 O1 K1 o1=>?_;have s1:=K1.size;have B1:=K1.bl hS.B fun h=>by have:=o _ h;omega
 have t1:=B1.bu (o:=6) hoff;have K2:af (fun q=>q=b) A1 (az A1 ⟨b,6,none⟩ v'):=(af.refl _ _).az _ (.inl rfl);have fk:af (fun q=>q=b\/ax lv q) A' (az A1 ⟨b,6,none⟩ v'):=(K1.mono fun q _ h=>.inr h).trans (K2.mono fun q _ h=>.inl h);rw[aJ];refine⟨K1.mono fun q _ h=>.inr (.inr (o q h)),?_⟩;simp only[go_sem,Za,Zb,e0,t1];refine⟨aI O1.sl.aq,K2.mono fun q _ h=>.inl h,hK _ v' (B1.az 6 v') (O1.ai K2 fun q hq e=>?_) (fun q hq=>?_) (hS.R.ai fk fun q hq e=>?_) ((hS.k.mono fun q _ e=>.inr (.inl e)).trans (fk.mono fun q _ h=>h.elim .inl fun h=>.inr (.inr h))) (hY v' _ fk o1 hS.y)⟩
 ·rcases o1 q hq with h|h
  ·have:=o q h;omega
  ·omega
 ·rcases o1 q hq with h|h
  ·exact .inl h
  ·exact .inr (by omega)
 ·rcases e with e|e
  ·exact hI.nF (e▸hq)
  ·have:=o q e;have:=hI.FC q hq;omega
theorem Wi {P:Program} {ι:aG} (hs:fU P (ι.f 343)) {f:Fr} {A:Hp} {rb b C:Nat} {cs:List Value} {F:Nat->Prop} {s:RS} {lv:Value} {xs:List Value} {Qb:Ex->Fr->Hp->Prop} (h4:f 4=.pointer (some ⟨rb,0,none⟩)) (h7:f 7=.pointer (some ⟨b,0,none⟩)) (hI:EF rb b C cs F s A) (hc:cs[5]?=some lv) (O:bq A lv xs) (o:∀q,ax lv q->C<=q) (hL:xs.length<=100)
  (hK:∀y,ErK rb b 5 cs F (cO 256 s).2 y lv xs A (fun tH X=>aQ X (.agg #[y]) (bH (cO 256 s).1)/\∀q,aT y q->A.size<=q/\¬ax tH q) (Qb .n) f):vc P (Cb ι) Qb f A:=by
 unfold Cb kW;refine bo (qa rb b C) ?_;have hoff:5<cs.length:=(List.getElem?_eq_some_iff.1 hc).1;have S0:=hI.s;have hW:qa rb b C rb:=.inr (.inl rfl);simp only[cB,dJ,PX.free,if_true,PX.pre,PX.val,jG,il,bw,qe,h4,h7,Ix,et,fh,fZ,mN,true_and,and_true,Nat.zero_add];have leaf:∀(y:Value) (e:Env) (A':Hp) (bn:Nat),iv rb b cs F (aaF A.size (.agg #[y]) (bH (cO 256 s).1)) A (cO 256 s).2 A'->Bl A' bn [y]->look e 25=.pointer (some ⟨b,0,none⟩)->look e 29=lv->look e 32=.slice (some ⟨bn,0,none⟩) 1 1->dg P (qa rb b C) (rL ι) e f A' (Qb .n):=fun y e A' bn hS hB e0 e1 e2=>by
  have hy:=hS.y.1;obtain⟨u,W,e',hV⟩:=hy
  cases e'
  refine Wg hI O o hL hoff (aI hV.sl.aq) hS hB e0 e1 e2 (fun tH A2 K o' h=>?_) (hK y);have h2:=hI.hC;have h3:=hI.bC;refine⟨h.1.ai K fun q hq e=>?_,fun q hq=>⟨h.2 q hq,fun e=>?_⟩⟩
  ·have h1:=h.2 q hq;rcases e with e|e
   ·omega
   ·have:=O.bj e;omega
  ·have h1:=h.2 q hq;have h4:=h.1.bj (k:=q) hq;rcases o' q e with e|e
   ·have:=O.bj e;omega
   ·omega
 repeat' (first|exact trivial|exact leaf _ _ _ _ (by assumption) (by assumption) rfl rfl rfl|refine iv.rd (by assumption) hc rfl ?_ ?_|refine iv.set hs (most:=256) (by assumption) hW (by omega) rfl (fun _ _ _=>?_) ?_|refine iv.acI (by assumption) rfl rfl (fun _ _ _ _=>?_) ?_)
theorem Wj {P:Program} {ι:aG} (hs:dN P (ι.f 342)) {f:Fr} {A:Hp} {rb b C:Nat} {cs:List Value} {F:Nat->Prop} {s:RS} {lv:Value} {xs:List Value} {Qb:Ex->Fr->Hp->Prop} (h4:f 4=.pointer (some ⟨rb,0,none⟩)) (h7:f 7=.pointer (some ⟨b,0,none⟩)) (hI:EF rb b C cs F s A) (hc:cs[6]?=some lv) (O:bq A lv xs) (o:∀q,ax lv q->C<=q) (hL:xs.length<=100)
  (hK:ErK rb b 6 cs F (rdNum 256 s).2 (.int .i64 ((rdNum 256 s).1:Int)) lv xs A (fun _ _=>True) (Qb .n) f):vc P (Cc ι) Qb f A:=by
 unfold Cc kW;refine bo (qa rb b C) ?_;have hoff:6<cs.length:=(List.getElem?_eq_some_iff.1 hc).1;have S0:=hI.s;have hW:qa rb b C rb:=.inr (.inl rfl);simp only[cB,dJ,PX.free,if_true,PX.pre,PX.val,jG,il,bw,qe,h4,h7,Ix,et,fh,fZ,mN,true_and,and_true,Nat.zero_add];have leaf:∀(e:Env) (A':Hp) (bn:Nat),iv rb b cs F (fun _=>True) A (rdNum 256 s).2 A'->Bl A' bn [.int .i64 ((rdNum 256 s).1:Int)]->look e 36=.pointer (some ⟨b,0,none⟩)->look e 40=lv->look e 43=.slice (some ⟨bn,0,none⟩) 1 1->dg P (qa rb b C) (rM ι) e f A' (Qb .n):=fun e A' bn hS hB e0 e1 e2=>Wh hI O o hL hoff rfl hS hB e0 e1 e2 (fun _ _ _ _ _=>trivial) hK
 repeat' (first|exact trivial|exact leaf _ _ _ (by assumption) (by assumption) rfl rfl rfl|refine iv.rd (by assumption) hc rfl ?_ ?_|refine iv.num hs (most:=256) (by assumption) hW (by omega) rfl (fun _ _=>?_) ?_|refine iv.acI (by assumption) rfl rfl (fun _ _ _ _=>?_) ?_)
end Go.Mg
namespace Go.Mg
open Go Go.RowKit
theorem Wk (s:RS):eo (cO 256 s).1/\(cO 256 s).1.length<=33/\∀n,bH (cO 256 s).1 n=true->n<=256:=by
 have key:eo (cO 256 s).1/\∀n,bH (cO 256 s).1 n=true->n<=256:=by
  have hn:eo ([]:List UInt8)/\∀n,bH [] n=true->n<=256:=⟨fun h=>absurd rfl h,fun n h=>by rw[fT]at h;cases h⟩
  unfold cO
  split
  ·exact hn
  ·split
   ·exact hn
   ·split
    ·exact hn
    ·next h=>
     split
     ·exact hn
     ·next h2=>
      refine⟨Classical.byContradiction h,fun n hb=>?_⟩;apply Classical.byContradiction;intro hc;exact h2 ⟨n,hb,by omega⟩
 exact⟨key.1,Ie key.1 key.2,key.2⟩
theorem Wl (s:RS):rD (j7 s).1:=by
 obtain⟨a,b,c⟩:=Wk s;exact⟨a,b,c,Eo 256 _⟩
theorem wH:∀(n:Nat) (s:RS),∀x∈(bh j7 n s).1,rD x
 |0,_,x,h=>by cases h
 |n+1,s,x,h=>by
  rw[bh]at h;rcases List.mem_append.1 h with h|h
  ·exact wH n s x h
  ·rw[List.mem_singleton]at h;subst h;exact Wl _
theorem Wm (s:RS):(j7 s).2.1.length<=s.1.length:=Nat.le_trans (gK _ _) (tG _ _)
theorem tI (us:List BN):(sq us).length=us.length:=by simp[sq]
theorem eT (us:List BN):(rE us).length=us.length:=by simp[rE]
variable {us:List BN} {P:Program} {ι:aG}
theorem wI {k:Nat} (h:k<us.length):(rE us).getD k (fun _=>false)=bH us[k].1:=by
 rw[List.getD_eq_getElem?_getD,List.getElem?_eq_getElem (by rw[eT];exact h),Option.getD_some];unfold rE;rw[List.getElem_map]
theorem Rv {F:cf} (hok:nD F=true) (hl:us.length=F.st.length) (hu:∀x∈us,rD x) (hb:∀x∈us,¬nH (bH x.1)):ff (bW F (rE us)):=by
 have hG:=de hok;have qM:=hG.lim;unfold iQ at qM;have hlt:=hG.lt;have e:(bW F (rE us)).el.length=F.st.length:=by simp[bW,eT,hl]
 have hne:F.st.length≠0:=fun h=>hG.ne (List.eq_nil_of_length_eq_zero h);refine⟨by omega,by omega,fun k u h=>?_,?_,?_,?_,?_,?_,?_⟩
 ·have h:(rE us).getD k (fun _=>false) u=true:=h
  by_cases hk:k<us.length
  ·rw[wI hk]at h;have h1:=hb _ (List.getElem_mem hk);have h2:=(hu _ (List.getElem_mem hk)).2.2.1 u h;have h3:u≠0:=fun e=>h1 ⟨u,h,.inl e⟩;omega
  ·rw[List.getD_eq_getElem?_getD,List.getElem?_eq_none (by rw[eT];omega)]at h
   cases h
 ·show F.di.length<=20;omega
 ·show F.sa.length<=20;omega
 ·show F.mo.length<=20;omega
 ·rw[e];exact hG.di
 ·rw[e];exact hG.sa
 ·rw[e];exact hG.mo
theorem aaH (hu:∀x∈us,rD x):xe us.length (sq us):=⟨tI us,fun u h=>by
 unfold sq at h;obtain⟨x,hx,rfl⟩:=List.mem_map.1 h;have:=(hu x hx).2.2.2;omega⟩
structure ErI (C rb rn:Nat) (s b d a m:Value) (FF:Nat->Prop) (us:List BN) (q:RS) (A:Hp) (ev sv:Value) (vs:List Value):Prop where
 B:Bl A rn [s,b,d,a,m,ev,sv]
 e:bq A ev vs
 m:bq A sv (iL (sq us))
 l:vs.length=us.length
 S:∀i (h:i<vs.length) (h':i<us.length),aQ A (.agg #[vs[i]]) (bH us[i].1)
 oe:∀q,ax ev q->C<=q
 om:∀q,ax sv q->C<=q/\¬ax ev q
 os:∀x∈vs,∀q,aT x q->C<=q/\¬ax ev q/\¬ax sv q
 R:iK FF A rb q.1 q.2
structure aft (P:Program) (ι:aG):Prop where
 newr:rq P (ι.f 108)
 byt:l8 P (ι.f 114)
 fread:rJ P ι (ι.f 351)
 cnt:nM P (ι.f 113)
 set:fU P (ι.f 343)
 num:dN P (ι.f 342)
 fin:wy P (ι.f 117)
 usr:py P (ι.f 378)
 snd:Eu P ι (ι.f 421)
 ebyt:wF P ι (ι.f 414)
 beq:BG P (ι.f 344)
theorem aaI (hs:fU P (ι.f 343)) (hn:dN P (ι.f 342)) {C rb rn:Nat} {s b d a m:Value} {FF:Nat->Prop} {q:RS} {A:Hp} {ev sv:Value} {vs:List Value} {f:Fr} {Qb:Ex->Fr->Hp->Prop} (h4:f 4=.pointer (some ⟨rb,0,none⟩)) (h7:f 7=.pointer (some ⟨rn,0,none⟩)) (I:ErI C rb rn s b d a m FF us q A ev sv vs)
  (hl:q.1.length<=1000000) (hne:rn≠rb) (hrn:rn<C) (hrb:rb<C) (hC:C<=A.size) (hnF:¬FF rn) (hFC:∀q,FF q->q<C) (hul:us.length<=100)
  (hK:∀A' JB Jg vs',ErI C rb rn s b d a m FF (us++[(j7 q).1]) (j7 q).2 A' JB Jg vs'->af (qa rb rn C) A A'->Qb .n f A'):vc P (.seq (Cb ι) (Cc ι)) Qb f A:=by
 have hI:EF rb rn C [s,b,d,a,m,ev,sv] FF q A:=⟨I.B,I.R,hl,hne,hrn,hrb,hC,hnF,hFC⟩
 have hvl:=I.l;rw[jF];refine Wi hs h4 h7 hI rfl I.e I.oe (by omega) fun y A1 JB B1 O1 o1 R1 K1 hY=>?_;have B1:Bl A1 rn [s,b,d,a,m,JB,sv]:=B1;have s1:=K1.size;have hoe:∀q,ax JB q->C<=q:=fun q hq=>by
  rcases o1 q hq with h|h
  ·exact I.oe q h
  ·omega
 have hle:=tG 256 q;have hI1:EF rb rn C [s,b,d,a,m,JB,sv] FF (cO 256 q).2 A1:=⟨B1,R1,by omega,hne,hrn,hrb,by omega,hnF,hFC⟩
 have m1:bq A1 sv (iL (sq us)):=I.m.ai K1 fun q hq e=>by
  have:=I.om q hq;rcases e with e|e|e
  ·omega
  ·omega
  ·exact this.2 e
 have S1:∀i (h:i<vs.length) (h':i<us.length),aQ A1 (.agg #[vs[i]]) (bH us[i].1):=fun i h h'=>(I.S i h h').ai K1 fun q hq e=>by
  have:=I.os _ (List.getElem_mem h) q hq;rcases e with e|e|e
  ·omega
  ·omega
  ·exact this.2.1 e
 have bj:∀x∈vs,∀q,aT x q->q<A.size:=fun x hx q hq=>by
  obtain⟨j,hj,rfl⟩:=List.getElem_of_mem hx;exact(I.S j hj (by omega)).bj (k:=q) hq
 refine Wj hn h4 h7 hI1 rfl m1 (fun q hq=>(I.om q hq).1) (by rw[aA,tI];exact hul) fun A2 Jg B2 O2 o2 R2 K2 _=>?_;have B2:Bl A2 rn [s,b,d,a,m,JB,Jg]:=B2;have s2:=K2.size;have ev2:∀q,ax JB q->¬(q=rn\/q=rb\/ax sv q):=fun q hq e=>by
  have h1:=hoe q hq;rcases e with e|e|e
  ·omega
  ·omega
  ·rcases o1 q hq with h|h
   ·exact(I.om q e).2 h
   ·have:=I.m.bj e;omega
 have y2:∀q,aT y q->¬(q=rn\/q=rb\/ax sv q):=fun q hq e=>by
  have h1:=hY.2 q hq;rcases e with e|e|e
  ·omega
  ·omega
  ·have:=I.m.bj e;omega
 have lst:iL (sq us)++[.int .i64 ((rdNum 256 (cO 256 q).2).1:Int)]=iL (sq (us++[(j7 q).1])):=by simp[sq,iL,j7]
 have KM:∀q,ax Jg q->ax sv q\/A1.size<=q:=o2;refine hK A2 JB Jg (vs++[y]) ⟨B2,O1.ai K2 ev2,by rw[<-lst];exact O2,by simp[hvl],fun i h h'=>?_,hoe,fun q hq=>?_,fun x hx q hq=>?_,R2⟩ ((K1.mono fun q _ e=>?_).trans (K2.mono fun q _ e=>?_))
 ·by_cases e:i<vs.length
  ·have e1:(vs++[y])[i]=vs[i]:=List.getElem_append_left e;have e2:(us++[(j7 q).1])[i]=us[i]'(by omega):=List.getElem_append_left (by omega);rw[e1,e2];exact(S1 i e (by omega)).ai K2 fun q hq e=>by
    have:=I.os _ (List.getElem_mem _) q hq;rcases e with e|e|e
    ·omega
    ·omega
    ·exact this.2.2 e
  ·have hi:i=vs.length:=by simp at h;omega
   subst hi;have e1:(vs++[y])[vs.length]=y:=by simp
   have e2:(us++[(j7 q).1])[vs.length]'h'=(j7 q).1:=by simp[hvl]
   rw[e1,e2];exact hY.1.ai K2 y2
 ·rcases KM q hq with h|h
  ·refine⟨(I.om q h).1,fun e=>?_⟩;rcases o1 q e with h'|h'
   ·exact(I.om q h).2 h'
   ·have:=I.m.bj h;omega
  ·exact⟨by omega,fun e=>by have:=O1.bj e;omega⟩
 ·rcases List.mem_append.1 hx with hx|hx
  ·have h3:=I.os x hx q hq;have h4:=bj x hx q hq;refine⟨h3.1,fun e=>?_,fun e=>?_⟩
   ·rcases o1 q e with h|h
    ·exact h3.2.1 h
    ·omega
   ·rcases KM q e with h|h
    ·exact h3.2.2 h
    ·omega
  ·simp only[List.mem_singleton]at hx;subst hx;have h1:=hY.2 q hq;have h2:=hY.1.bj (k:=q) hq;refine⟨by omega,fun e=>?_,fun e=>?_⟩
   ·exact h1.2 e
   ·rcases KM q e with h|h
    ·have:=I.m.bj h;omega
    ·omega
 ·rcases e with e|e|e
  ·exact .inl e
  ·exact .inr (.inl e)
  ·exact .inr (.inr (I.oe q e))
 ·rcases e with e|e|e
  ·exact .inl e
  ·exact .inr (.inl e)
  ·exact .inr (.inr (I.om q e).1)
def rN (P:Program) (ι:aG) (k:FuncId):Prop:=∀(l:List UInt8) (v:Value) (H:Hp),bg ι H->aO H v (w8 l)->l.length<=1000000→
 (∀F,nD F=true->df F=(bB l.length (l,0)).1->(bF 10 (bB l.length (l,0)).2).1=F.st.length->F.st.length<=5)→
 an P k #[v] H fun r H'=>af (fun _=>False) H H'/\((∃F us rn,rF F us/\ie F us=l/\r=.tuple #[.pointer (some ⟨rn,0,none⟩),.int .i64 0]/\dI H' rn F (rE us) (sq us))∨
  ((∀F us,rF F us->ie F us≠l)/\r=.tuple #[.pointer none,.int .i64 6]))
theorem Rw {k:FuncId} (hk:al P k (Cd ι) Ce 1) (c:aft P ι):rN P ι k:=by
 intro l v H hT hv Cr h5;obtain⟨Q,hQ⟩:∃Q:Value->Hp->Prop,Q=fun r H'=>af (fun _=>False) H H'/\((∃F us rn,rF F us/\ie F us=l/\r=.tuple #[.pointer (some ⟨rn,0,none⟩),.int .i64 0]/\dI H' rn F (rE us) (sq us))∨
  ((∀F us,rF F us->ie F us≠l)/\r=.tuple #[.pointer none,.int .i64 6])):=⟨_,rfl⟩
 rw[<-hQ];refine ah hk (args:=[_]) (by simp) ?_;unfold Cd Ce kA kB kF kC ke kH kL kM kQ kU kY kZ;have lv:aU v=l.length:=by rw[hv.len,aK]
 simp-implicitDefEqProofs only[go_sem,↓reduceIte,Za,Zb,Zc,reduceCtorEq,Zf,Zg,Zh,Zi,Zd,Ze];refine(c.newr l v H hv (by omega)).mono ?_;rintro r H1 ⟨rb,FF,rfl,R1,nF,K1⟩;have s1:=K1.size;rw[ae];simp-implicitDefEqProofs only[go_sem,↓reduceIte,Za,Zb,Zc,reduceCtorEq,Zf,Zg,Zh,Zi,Zd,Ze,hv.aq,lv];refine(c.byt FF rb (l,0) l.length H1 R1 (by simp only;omega) (by omega)).mono ?_;rintro r H2 ⟨O2,o2,R2,K2⟩;have hrb:H.size<=rb:=by
  obtain⟨_,_,_,h,_⟩:=R1;exact nF rb h
 have dB:af (fun _=>False) H H2:=K1.trans' K2 fun q hq e=>by omega
 have Nh:=pP l.length (l,0);have LA:(bB l.length (l,0)).1.length<=l.length:=xY _ _;obtain⟨p1,hp1⟩:∃p,p=bB l.length (l,0):=⟨_,rfl⟩
 rw[<-hp1]at O2 R2 Nh LA h5;rw[ae];simp-implicitDefEqProofs only[go_sem,↓reduceIte,Za,Zb,Zc,reduceCtorEq,Zf,Zg,Zh,Zi,Zd,Ze];refine(c.fread p1.1 r H2 (hT.ai dB) O2.sl (by omega)).mono ?_;rintro r H3 ⟨hc,K3⟩;have gg:=dB.trans K3;have R3:=R2.ai K3 (by simp);obtain⟨s,b,d,a,m,e6,rfl,hsl,hF6⟩:∃s b d a m e6,r=.tuple #[.agg #[s,b,d,a,m],.int .i64 e6]/\(aq s/\aq b/\aq d/\aq a/\aq m)/\((e6=0/\∃F,nD F=true/\df F=p1.1/\aU s=F.st.length/\∀X W,af W H3 X->(∀q,W q->q<H2.size)->bU X (.agg #[s,b,d,a,m]) F)\/(e6≠0/\∀F,nD F=true->df F≠p1.1)):=by
  rcases hc with⟨F,fv,h1,h2,rfl,h3⟩|⟨h1,rfl⟩
  ·obtain⟨s,b,d,a,m,ms,rfl,q1,q2,q3,q4,q5,q6⟩:=h3 _ (fun _=>False) (af.refl _ _) fun q h=>h.elim;exact⟨s,b,d,a,m,0,rfl,⟨q1.aq,q2.aq,q3.aq,q4.aq,q5.aq⟩,.inl ⟨rfl,F,h1,h2,q1.len,h3⟩⟩
  ·exact⟨_,_,_,_,_,6,rfl,⟨trivial,trivial,trivial,trivial,trivial⟩,.inr ⟨by decide,h1⟩⟩
 have afu:([s,b,d,a,m].all fun v=>v.oneCell')=true:=by
  obtain⟨q1,q2,q3,q4,q5⟩:=hsl;simp only[List.all_cons,List.all_nil,aI q1,aI q2,aI q3,aI q4,aI q5];rfl
 rw[ae];simp-implicitDefEqProofs only[go_sem,↓reduceIte,Za,Zb,Zc,reduceCtorEq,Zf,Zg,Zh,Zi,Zd,Ze];refine aN [s,b,d,a,m] (by rfl) rfl rfl afu fun H4 b5 e4 z4 B5 K4=>?_;have ED:=gg.trans K4;have R4:=R3.ai K4 (by simp);simp-implicitDefEqProofs only[go_sem,↓reduceIte,Za,Zb,Zc,reduceCtorEq,Zf,Zg,Zh,Zi,Zd,Ze,B5.aM 5 rfl];refine ay fun H5 rn e5 z5 Bn K5=>?_;have Bn':Bl H5 rn [s,b,d,a,m,.slice none 0 0,.slice none 0 0]:=Bn;have Pe:=ED.trans K5;have R5:=R4.ai K5 (by simp);have B55:=K5.bl B5 (by simp);simp-implicitDefEqProofs only[go_sem,↓reduceIte,Za,Zb,Zc,reduceCtorEq,Zf,Zg,Zh,Zi,Zd,Ze];refine(c.cnt FF rb p1.2 10 H5 R5 (by simp only at Nh;omega) (by omega)).mono ?_;rintro r H6 ⟨rfl,R6,K6⟩;have Fy:af (fun _=>False) H H6:=Pe.trans' K6 fun q hq e=>by omega
 obtain⟨hd1,hd2⟩:=jz 10 p1.2;have s4:=K4.size;have s5:=K5.size;have s6:=K6.size;have s2:=K2.size;have s3:=K3.size;have lrb:rb<H1.size:=by
  obtain⟨_,h,_⟩:=R1;exact h.lt
 have lrn:=Bn'.lt;have lb5:=B5.lt;have hFb:=R1.bound;have nFn:¬FF rn:=fun h=>by have:=hFb rn h;omega
 have B56:=K6.bl B55 (by omega);have Bn6:=K6.bl Bn' (by omega);rw[ae];simp-implicitDefEqProofs only[go_sem,↓reduceIte,Za,Zb,Zc,reduceCtorEq,Zf,Zg,Zh,Zi,Zd,Ze];refine aD (bF 10 p1.2).1 [24,23] rfl rfl (by omega) (by rfl) (by rfl) (fun i g A=>∃ev sv vs,ErI H6.size rb rn s b d a m FF (bh j7 i (bF 10 p1.2).2).1 (bh j7 i (bF 10 p1.2).2).2 A ev sv vs/\af (qa rb rn H6.size) H6 A)
  ⟨.slice none 0 0,.slice none 0 0,[],⟨Bn6,bq.nil _,bq.nil _,rfl,fun i h=>by simp at h,fun q h=>h.elim,fun q h=>h.elim,fun x h=>by simp at h,R6⟩,af.refl _ _⟩ ?_ ?_
 ·rintro i g A hi gi gn ⟨ev,sv,vs,I,K⟩;simp-implicitDefEqProofs only[go_sem,↓reduceIte,Za,Zb,Zc,reduceCtorEq,ae,Zf,Zg,Zh,Zi,Zd,Ze]at gi gn;have sA:=K.size;have WX:=ig Wm i (bF 10 p1.2).2;have hrl:=ek j7 i (bF 10 p1.2).2;refine aaI c.set c.num (by rfl) (by rfl) I (by simp only at Nh;omega) (by omega) (by omega) (by omega) (by omega) nFn (fun q hq=>by have:=hFb q hq;omega) (by omega) fun A' JB Jg vs' I' K'=>?_;simp-implicitDefEqProofs only[go_sem,↓reduceIte,Za,Zb,Zc,reduceCtorEq,ae,Zf,Zg,Zh,Zi,Zd,Ze];exact⟨JB,Jg,vs',I',K.trans K'⟩
 ·rintro g A -⟨ev,sv,vs,I,K⟩;obtain⟨us,hus⟩:∃us,us=(bR 10 j7 p1.2).1:=⟨_,rfl⟩
  obtain⟨s3,RP⟩:∃q,q=(bR 10 j7 p1.2).2:=⟨_,rfl⟩
  have I:ErI H6.size rb rn s b d a m FF us s3 A ev sv vs:=by rw[hus,RP];exact I
  have hul:us.length=(bF 10 p1.2).1:=by rw[hus];exact ek _ _ _
  have huk:∀x∈us,rD x:=by rw[hus];exact wH _ _
  rw[<-hul]at h5 hd2;have hrt:∀G ws,rF G ws->ie G ws=l->df G=p1.1/\ws=us/\s3=([],0):=fun G ws hV he=>by
   have hm:(df G).length<=l.length:=by
    rw[<-he];unfold ie;simp only[List.length_append,dw];omega
   obtain⟨x1,x2⟩:=hV.rd hm (by omega) [];rw[List.append_nil,he,<-hp1]at x1;have e1:p1.1=df G:=by rw[x1]
   have e2:p1.2=(cC ic ws++[],0):=by rw[x1]
   rw[e2,x2]at hus RP;exact⟨e1.symm,hus.symm,RP⟩
  have Zw:af (fun _=>False) H A:=Fy.trans' K fun q hq e=>by
   rcases e with e|e|e<;>omega
  have bad:∀X,af (fun _=>False) A X->(∀G ws,rF G ws->ie G ws≠l)->Q (.tuple #[.pointer none,.int .i64 6]) X:=fun X KX h=>by
   rw[hQ];exact⟨Zw.trans KX,.inr ⟨h,rfl⟩⟩
  have sA:=K.size;have B5A:=K.bl B56 (by
   rintro(e|e|e)
   ·omega
   ·omega
   ·omega)
  simp-implicitDefEqProofs only[go_sem,↓reduceIte,Za,Zb,Zc,reduceCtorEq,Zf,Zg,Zh,Zi,Zd,Ze];unfold XL kA kB kC kW kX kY;simp-implicitDefEqProofs only[go_sem,↓reduceIte,Za,Zb,Zc,reduceCtorEq,Zf,Zg,Zh,Zi,Zd,Ze];refine bo (fun _=>False) ?_;simp-implicitDefEqProofs only[go_sem,↓reduceIte,Za,Zb,Zc,reduceCtorEq,Zf,Zg,Zh,Zi,Zd,Ze];refine(c.fin FF rb s3.1 s3.2 A I.R).mono ?_;rintro r A1 ⟨rfl,rfl⟩;rw[aJ];refine⟨af.refl _ _,?_⟩;have c6:cell A1 ⟨rn,6,none⟩=some sv:=by rw[I.B.cell];rfl
  have c5:cell A1 ⟨rn,5,none⟩=some ev:=by rw[I.B.cell];rfl
  have c50:cell A1 ⟨b5,0,none⟩=some s:=by rw[B5A.cell];rfl
  have lsv:aU sv=us.length:=by rw[I.m.sl.len,aA,tI]
  by_cases hE:pL s3=0
  case neg=>
   have d1:(pL (s3.1,s3.2)!=0)=true:=bne_iff_ne.2 hE;simp-implicitDefEqProofs only[go_sem,↓reduceIte,Za,Zb,Zc,reduceCtorEq,ae,Zf,Zg,Zh,Zi,Zd,Ze,d1];exact bad _ (af.refl _ _) fun G ws hV he=>hE (by rw[(hrt G ws hV he).2.2];rfl)
  have d1:(pL (s3.1,s3.2)!=0)=false:=by
   have:pL (s3.1,s3.2)=0:=hE;rw[this];rfl
  rcases hF6 with⟨rfl,F,hok,Xh,ls,hPF⟩|⟨h6,hno⟩
  case inr=>
   have d6:(e6 !=0)=true:=bne_iff_ne.2 h6;simp-implicitDefEqProofs only[go_sem,↓reduceIte,Za,Zb,Zc,reduceCtorEq,ae,Zf,Zg,Zh,Zi,Zd,Ze,d1,d6];exact bad _ (af.refl _ _) fun G ws hV he=>hno G hV.ok (hrt G ws hV he).1
  have d6:((0:Int)!=0)=false:=rfl;have hFG:∀G ws,rF G ws->ie G ws=l->G=F:=fun G ws hV he=>by
   have:=(hrt G ws hV he).1;exact(wD (r:=[]) (t:=[]) (gh hV.ok) (gh hok) (by rw[this,Xh])).1
  have hPA:bU A1 (.agg #[s,b,d,a,m]) F:=hPF A1 (fun q=>q=rb) ((((K4.trans K5).any (W:=fun q=>q=rb)).trans (K6.mono fun q _ e=>e)).trans' K fun q hq e=>by
   rcases e with e|e|e
   ·omega
   ·exact e
   ·omega) fun q e=>by omega
  by_cases hn:us.length=F.st.length
  case neg=>
   have d7:(((us.length:Nat):Int)!=((F.st.length:Nat):Int))=true:=bne_iff_ne.2 (by omega);simp-implicitDefEqProofs only[go_sem,↓reduceIte,Za,Zb,Zc,reduceCtorEq,ae,Zf,Zg,Zh,Zi,Zd,Ze,d1,d6,c6,c50,I.m.sl.aq,lsv,hsl.1,ls,d7];exact bad _ (af.refl _ _) fun G ws hV he=>hn (by rw[<-(hrt G ws hV he).2.1,hV.len,hFG G ws hV he])
  have d7:(((us.length:Nat):Int)!=((F.st.length:Nat):Int))=false:=by rw[hn];simp
  simp-implicitDefEqProofs only[go_sem,↓reduceIte,Za,Zb,Zc,reduceCtorEq,Zf,Zg,Zh,Zi,Zd,Ze,d1,d6,c6,c5,c50,I.m.sl.aq,lsv,hsl.1,ls,d7];have hes:∀i<vs.length,aQ A1 (.agg #[vs.getD i undef]) ((rE us).getD i fun _=>false):=fun i hi=>by
   have oh:i<us.length:=by rw[<-I.l];exact hi
   rw[wI oh,List.getD_eq_getElem?_getD,List.getElem?_eq_getElem hi,Option.getD_some];exact I.S i hi oh
  have hel:vs.length=(rE us).length:=by rw[eT];exact I.l
  have hlt:=(de hok).lt;refine(c.usr (rE us) vs ev (F.st.length:Int) A1 I.e.sl hel (by rw[eT];omega) hes).mono ?_;rintro r A2 ⟨eu,rfl,K2u,hu⟩;rw[aJ];refine⟨K2u,?_⟩;rw[eT]at hu;rcases hu with⟨hu,_⟩|⟨_,⟨rfl,i,hi,hb⟩|⟨rfl,hnb⟩⟩
  ·exact absurd (by omega) hu
  ·have d8:((2:Int)!=0)=true:=rfl;simp-implicitDefEqProofs only[go_sem,↓reduceIte,Za,Zb,Zc,reduceCtorEq,ae,Zf,Zg,Zh,Zi,Zd,Ze,d8];exact bad _ K2u fun G ws hV he=>by
    have e:=(hrt G ws hV he).2.1;subst e;rw[wI hi]at hb;exact hV.bad _ (List.getElem_mem hi) hb
  have nA:∀x∈us,¬nH (bH x.1):=fun x hx=>by
   obtain⟨j,hj,rfl⟩:=List.getElem_of_mem hx;have:=hnb j hj
   rwa [wI hj]at this
  have hG:=Rv hok hn huk nA;have h5':us.length<=5:=by have:=h5 F hok Xh hn;omega
  have hB:Ay (bW F (rE us)) (sq us):=by
   have e:(bW F (rE us)).el.length=us.length:=eT us;exact vK hG (by rw[e];exact aaH huk) (by rw[e];exact h5')
  have hRn:dI A1 rn F (rE us) (sq us):=⟨s,b,d,a,m,ev,sv,vs,I.B,hPA,I.e.sl,hel,by rw[eT,hn],hes,I.m.sl⟩
  have aaJ:=hRn.aj K2u;have DL:=Zw.trans K2u;have d8:((0:Int)!=0)=false:=rfl;simp-implicitDefEqProofs only[go_sem,↓reduceIte,Za,Zb,Zc,reduceCtorEq,Zf,Zg,Zh,Zi,Zd,Ze,d8];refine(c.snd F (rE us) (sq us) rn A2 (hT.ai DL) aaJ hok (by rw[tI,eT]) hG hB).mono ?_;rintro r A3 ⟨rfl,K3u⟩;rw[aJ];refine⟨K3u,?_⟩;have Xi:=DL.trans K3u
  cases hsd:(AU F.be (sq us)&&(en (bW F (rE us)) (sq us)).isSome)with
  |false=>
   simp-implicitDefEqProofs only[go_sem,↓reduceIte,Za,Zb,Zc,reduceCtorEq,ae,Zf,Zg,Zh,Zi,Zd,Ze,Bool.not_false];exact bad _ (K2u.trans K3u) fun G ws hV he=>by
    have e:=(hrt G ws hV he).2.1;have eG:=hFG G ws hV he;subst e eG;rw[hV.ord,hV.sol]at hsd
    cases hsd
  |true=>
   obtain⟨afv,afw⟩:=Bool.and_eq_true_iff.1 hsd;have hVR:rF F us:=⟨hok,hn,huk,nA,afv,afw⟩
   have hU:UsR (rE us) (sq us) us:=⟨(eT us).symm,fun k hk n=>by rw[wI hk],rfl,huk⟩
   simp-implicitDefEqProofs only[go_sem,↓reduceIte,Za,Zb,Zc,reduceCtorEq,Zf,Zg,Zh,Zi,Zd,Ze,Bool.not_true];refine(c.ebyt F (rE us) (sq us) us rn A3 (hT.ai Xi) (aaJ.aj K3u) hok hU (by rw[eT];omega)).mono ?_;rintro r A4 ⟨O4,o4,K4u⟩;rw[aJ];refine⟨K4u,?_⟩;have KA4:=Xi.trans K4u;simp-implicitDefEqProofs only[go_sem,↓reduceIte,Za,Zb,Zc,reduceCtorEq,Zf,Zg,Zh,Zi,Zd,Ze];refine(c.beq (ie F us) l r v A4 O4.sl (hv.ai KA4 (by simp))).mono ?_;rintro r2 A5 ⟨rfl,rfl⟩;rw[aJ];refine⟨af.refl _ _,?_⟩
   by_cases heq:ie F us=l
   ·simp-implicitDefEqProofs only[go_sem,↓reduceIte,Za,Zb,Zc,reduceCtorEq,ae,Zf,Zg,Zh,Zi,Zd,Ze,heq,decide_true,Bool.not_true];rw[hQ];exact⟨KA4,.inl ⟨F,us,rn,hVR,heq,rfl,((aaJ.aj K3u).aj K4u)⟩⟩
   ·have d9:decide (ie F us=l)=false:=decide_eq_false heq;simp-implicitDefEqProofs only[go_sem,↓reduceIte,Za,Zb,Zc,reduceCtorEq,ae,Zf,Zg,Zh,Zi,Zd,Ze,d9,Bool.not_false];exact bad _ ((K2u.trans K3u).trans K4u) fun G ws hV he=>by
     have e:=(hrt G ws hV he).2.1;have eG:=hFG G ws hV he;subst e eG;exact heq he
end Go.Mg
namespace Go.Mg
open Go Go.RowKit
end Go.Mg
namespace Go.Mg
open Go Go.RowKit
end Go.Mg
namespace Go.Mg
open Go Go.RowKit
def Rx (ι:aG):S:=
 (.dr (kW 25 (.m (.ldn 5 (.v 7))) (kW 26 (.mv (.v 8)) (kW 27 (.fa 0 (.v 7)) (kW 28 (.ld (.t 27)) (kW 29 (.m (.lenl (.t 28))) (.wcons (.t 30) .none (.qf (ι.t 26) 1 8 #[.int .i64 0] (.t 29) (.t 29)) (kW 31 (.m (.bld #[kZ,kZ,kZ,kZ,kZ,kZ,kZ] [(0,(5,.t 25)),(5,(1,.t 26)),(6,(1,.t 30))])) (.wcons (.v 9) .none (.new (ι.t 396) #[kZ,kZ,kZ,kZ,kZ,kZ,kZ]) (.wcons .no .none (.stn 7 (.v 9) (.t 31)) .done .wnil) .wnil)) (.wcons (.v 9) .none (.new (ι.t 396) #[kZ,kZ,kZ,kZ,kZ,kZ,kZ]) (.wcons (.t 30) .none (.qf (ι.t 26) 1 8 #[.int .i64 0] (.t 29) (.t 29)) (kW 31 (.m (.bld #[kZ,kZ,kZ,kZ,kZ,kZ,kZ] [(0,(5,.t 25)),(5,(1,.t 26)),(6,(1,.t 30))])) (.wcons .no .none (.stn 7 (.v 9) (.t 31)) .done .wnil)) .wnil) .wnil))))))))
def XM (ι:aG):S:=
 (kY [kM 85 7 9,.e (.t 86) (.call (ι.f 420) [.t 85]),.e (.t 87) (.call (ι.f 422) [.t 86]),kF 84 87,kQ 88 84 0,kQ 89 84 1,kB 14 88,kB 15 89] (.seq (kY [kA 90 11,kV 91 (.not (.t 90))] (.ite (.v 91) (kY [kA 92 15,kU 93 (.cm .eql .i64 (.t 92) (.c (.int .i64 6))),kF 94 93,kS 95 94 true 14,kT 96 94 true (.m (.eqn .ptr false (.t 95))),kJ 97 94 96,kB 4 97] .ret) .skip)) (kY [kA 98 15,kU 99 (.cm .eql .i64 (.t 98) (.c (.int .i64 0))),kF 100 99,kS 101 100 true 14,kT 102 100 true (.m (.ldn 7 (.v 9))),.ge (.t 103) (.t 100) true (.call (ι.f 406) [.t 101,.t 102]),kJ 104 100 103,kB 4 104] .ret)))
def Ry (ι:aG):S:=
 (kY [kM 53 7 9,.e (.t 54) (.call (ι.f 397) [.t 53]),kL 55 54,kU 56 (.cm .gtr .i64 (.t 55) (.c (.int .i64 0))),kB 11 56] (.seq (kY [kG 57 1 7,kV 58 (.ld (.t 57)),kO 59 58,kC 60 (.int .i64 0)] (.blk 2 (.loop (kY [kH 61 60 59] (.seq (.ite (.v 61) .skip (.exit 2)) (.seq (.blk 3 (kY [kK 62 2 58 60,kN 63 2 62,.e (.v 13) (.new (ι.t 194) #[.int .i64 0,.int .i64 0]),.e .no (.stn 2 (.v 13) (.t 63))] (.reg [kA 64 11,kF 65 64,kT 66 65 true (.fa 6 (.v 9)),kT 67 65 true (.ld (.t 66)),kT 68 65 true (.ia 2 1 (.v 13) (.c (.int .i64 1))),kT 69 65 true (.ld (.t 68)),kT 70 65 true (.is 1 (.t 67) (.t 69)),kT 71 65 true (.ld (.t 70)),kT 72 65 true (.cm .eql .i64 (.t 71) (.c (.int .i64 0))),kT 73 65 true (.mv (.t 72)),kT 74 73 false (.fa 6 (.v 9)),kT 75 73 false (.ld (.t 74)),kT 76 73 false (.ia 2 1 (.v 13) (.c (.int .i64 0))),kT 77 73 false (.ld (.t 76)),kT 78 73 false (.is 1 (.t 75) (.t 77)),kT 79 73 false (.ld (.t 78)),kT 80 73 false (.cm .neq .i64 (.t 79) (.c (.int .i64 0))),kT 81 65 true (.pick (.t 73) (.c (.bool true)) (.t 80)),kJ 82 65 81,kB 11 82]))) (.reg [ke 83 60,kB 60 83]))))))) (XM ι)))
def Io (ι:aG):S:=
 kY [kR 2 (ι.t 288) 0,kC 4 (.bool false)] (.seq (kY [.e (.t 16) (.call (ι.f 407) []),kV 17 (.not (.t 16))] (.ite (.v 17) (kY [kC 4 (.bool false)] .ret) .skip)) (kY [kM 19 7 2,.e (.t 20) (.call (ι.f 300) [.t 19]),kF 18 20,kQ 21 18 0,kQ 22 18 1,kQ 23 18 2,kQ 24 18 3,.e (.t 5) (.new (ι.t 296) #[kZ,kZ,kZ,kZ,kZ]),.e (.v 7) (.new (ι.t 289) #[kZ,kZ,kZ,kZ,kZ]),.e .no (.stn 5 (.t 5) (.t 21)),kF 6 22,.e .no (.stn 5 (.v 7) (.t 23)),kB 8 24] (.seq (Rx ι) (.seq (kY [kG 32 6 9,kD 33 32,kV 34 (.m (.lenl (.t 33))),kC 35 (.int .i64 0)] (.blk 0 (.loop (kY [kH 36 35 34] (.seq (.ite (.v 36) .skip (.exit 0)) (.seq (.blk 1 (kY [kA 37 35,kB 10 37] (kY [kA 38 10,kA 39 1,kL 40 39,kV 41 (.cm .lss .i64 (.t 38) (.t 40))] (.ite (.v 41) (.reg [kG 42 6 9,kD 43 42,kA 44 10,kA 45 1,kA 46 10,kI 47 1 45 46,kD 48 47,kU 49 (.dv .rem .u8 (.t 48) (.c (.int .u8 6))),kU 50 (.ii .i64 (.t 49)),kI 51 1 43 44,.e .no (.st (.t 51) (.t 50))]) .skip)))) (.reg [ke 52 35,kB 35 52]))))))) (Ry ι)))))
def Ip:List RV:=[.t 4]
structure XN (P:Program) (ι:aG):Prop where
 aw:vQ P ι (ι.f 407)
 mak:qK P (ι.f 300)
 cmp:vN P (ι.f 397)
 read:rN P ι (ι.f 422)
 rbyt:rK P (ι.f 420)
 is_:AV P ι (ι.f 406)
variable {P:Program} {ι:aG} {f:Fr} {A:Hp} {b7 n i:Nat} {s b d a m:Value} {us:List UInt8}
theorem aaK {un uc:Nat} {ua:Option Addr} {Qb:Ex->Fr->Hp->Prop} (h7:f 7=.pointer (some ⟨b7,0,none⟩)) (h8:f 8=.slice ua un uc) (B7:Bl A b7 [s,b,d,a,m]) (hs:aq s) (hl:aU s=n) (hn:n<=10) (h5:aq s/\aq b/\aq d/\aq a/\aq m)
  (hK:∀A' b9 bz,Bl A' b9 [s,b,d,a,m,.slice ua un uc,.slice (some ⟨bz,0,none⟩) n n]->Bl A' bz (iL (List.replicate n 0))->A.size<=b9->A.size<=bz->bz≠b9->af (fun _=>False) A A'->Qb .n (bL f 9 (.pointer (some ⟨b9,0,none⟩))) A'):vc P (Rx ι) Qb f A:=by
 unfold Rx kW kZ;have c0:cell A ⟨b7,0,none⟩=some s:=by rw[B7.cell];rfl
 have lt:=B7.lt;have Xr:(0:Int)<=(n:Int)/\8*(n:Int)<=281474976710656/\(n:Int)<=(maxLen:Int):=⟨by omega,by omega,by unfold maxLen;omega⟩
 have zn:∀(X:Hp) (T:TypeId),Bl (X.push (.cells (rep #[.int .i64 0] n) T)) X.size (iL (List.replicate n 0)):=fun X T=>by
  have B:=Bl.cS X (rep #[.int .i64 0] n) T
  rwa [cT,qj]at B
 have fin:∀(A2:Hp) (b9 bz:Nat),Bl A2 b9 [.slice none 0 0,.slice none 0 0,.slice none 0 0,.slice none 0 0,.slice none 0 0,.slice none 0 0,.slice none 0 0]->Bl A2 bz (iL (List.replicate n 0))->bz≠b9->A.size<=b9->A.size<=bz->af (fun _=>False) A A2→
   (bM A2 ⟨b9,0,none⟩ 7/\bO #[s,b,d,a,m,.slice ua un uc,.slice (some ⟨bz,0,none⟩) n n])/\af (fun q=>A.size<=q) A2 (aB A2 ⟨b9,0,none⟩ [s,b,d,a,m,.slice ua un uc,.slice (some ⟨bz,0,none⟩) n n])/\Qb .n (bL f 9 (.pointer (some ⟨b9,0,none⟩))) (aB A2 ⟨b9,0,none⟩ [s,b,d,a,m,.slice ua un uc,.slice (some ⟨bz,0,none⟩) n n]):=fun A2 b9 bz B9 Z hne h9 hz K=>by
  have K9:af (fun q=>q=b9) A2 (aB A2 ⟨b9,0,none⟩ [s,b,d,a,m,.slice ua un uc,.slice (some ⟨bz,0,none⟩) n n]):=(af.refl _ _).aB _ (.inl rfl);exact⟨⟨B9.bM (o:=0) (n:=7) (by simp),bd (sl7 h5 trivial trivial)⟩,K9.mono fun q _ e=>by omega,hK _ b9 bz (B9.aB 0 _) (K9.bl Z hne) h9 hz hne (K.trans' K9 fun q hq e=>by omega)⟩
 have Kp:∀(X:Hp) (T:TypeId) (y:Array Value),af (fun _=>False) X (X.push (.cells y T)):=fun X T y=>(af.refl _ _).push _;refine bo (fun q=>A.size<=q) ?_;simp-implicitDefEqProofs only[go_sem,↓reduceIte,Za,Zb,Zc,reduceCtorEq,Zf,Zg,Zh,Zi,Zd,Ze,h7,h8,B7.aM 5 rfl,c0,hs,hl,ae2];refine⟨by omega,by omega,⟨Xr,(Kp _ _ _).any,(Kp _ _ _).any,?_⟩,(Kp _ _ _).any,Xr,(Kp _ _ _).any,?_⟩
 ·exact fin _ _ _ (Bl.cS _ _ _) ((Kp _ _ _).bl (zn A (ι.t 26)) (by simp)) (by simp) (by simp) (by simp) ((Kp _ _ _).trans (Kp _ _ _))
 ·exact fin _ _ _ ((Kp _ _ _).bl (Bl.cS _ _ _) (by simp)) (zn _ (ι.t 26)) (by simp) (by simp) (by simp) ((Kp _ _ _).trans (Kp _ _ _))
def gq (us:List UInt8) (n i:Nat):List Int:=(List.range n).map fun k=>if k<i/\k<us.length then(((us.getD k 0).toNat % 6:Nat):Int)else 0
theorem x8 (us:List UInt8) (n i:Nat):(gq us n i).length=n:=by simp[gq]
theorem Wn (us:List UInt8) (n:Nat):gq us n 0=List.replicate n 0:=by
 refine List.ext_getElem (by simp[gq]) fun k h1 h2=>?_;simp[gq]
theorem Iq (h:us.length<=i):gq us n (i+1)=gq us n i:=by
 unfold gq;refine List.map_congr_left fun k _=>?_
 by_cases hk:k<us.length
 ·rw[if_pos ⟨by omega,hk⟩,if_pos ⟨by omega,hk⟩]
 ·rw[if_neg (fun h=>hk h.2),if_neg (fun h=>hk h.2)]
theorem Mk (h:i<us.length):(gq us n i).set i (((us.getD i 0).toNat % 6:Nat):Int)=gq us n (i+1):=by
 refine List.ext_getElem (by simp[gq]) fun k h1 h2=>?_;rw[List.getElem_set];simp only[gq,List.getElem_map,List.getElem_range]
 by_cases e:i=k
 ·subst e;rw[if_pos rfl,if_pos ⟨by omega,h⟩]
 ·rw[if_neg e]
  by_cases hk:k<i/\k<us.length
  ·rw[if_pos hk,if_pos ⟨by omega,hk.2⟩]
  ·rw[if_neg hk,if_neg (by omega)]
theorem Rz (us:List UInt8) (n i:Nat):∀u∈gq us n i,0<=u/\u<=256:=fun u hu=>by
 unfold gq at hu;obtain⟨k,_,rfl⟩:=List.mem_map.1 hu
 split<;>omega
theorem aaL (c:XN P ι) {r:dX} {st:List Int} {b9:Nat} {ev sv:Value} {Q:Value->Hp->Prop} (f7:f 7=.pointer (some ⟨b7,0,none⟩)) (f9:f 9=.pointer (some ⟨b9,0,none⟩)) (hT:bg ι A) (B7:Bl A b7 [s,b,d,a,m]) (B9:Bl A b9 [s,b,d,a,m,ev,sv])
  (hR:dY A (.agg #[s,b,d,a,m,ev,sv]) (dt r) (bf r) st) (hsl:st.length=(dt r).st.length) (hst:∀u∈st,0<=u/\u<=256) (hQ:∀X,af (fun _=>False) A X->Q (.bool true) X):vc P (Ry ι) (mM [.t 4] Q) f A:=by
 have LD:=hR;have hok:=Gk r;have hG:=de hok;have hE:=gh hok;have hnu:=nC r;have nQ:=pf r;have hmk:=fo r;have qM:=hG.lim;unfold iQ at qM;obtain⟨s',b',d',a',m',JB,Jg,e,hF,he,hs⟩:=hR
 cases e
 obtain⟨s',b',d',a',m',e,q1,q2,q3,q4,q5⟩:=hF
 cases e
 have hSm:SmG (dt r) (bf r) st:=⟨hG,by omega,by omega,hsl⟩
 have hU:=acG (ms:=bf r) (st:=st) (by omega) hst;obtain⟨us,hus⟩:∃us,us=Rr (bf r) st:=⟨_,rfl⟩
 rw[<-hus]at hU;have hul:us.length=st.length:=by rw[hus,pQ]
 have nA:∀x∈us,¬nH (bH x.1):=fun x hx=>by
  rw[hus]at hx;obtain⟨k,hk,rfl⟩:=List.getElem_of_mem hx;rw[wG];rintro⟨u,hu,hb⟩;rw[dP]at hu;have:=qX r k u hu;omega
 have afx:rF (dt r) us↔qW (dt r) (bf r) st≠[]/\AU (dt r).be st=true:=by
  constructor
  ·intro h;refine⟨fun hc=>?_,by rw[hU.stf];exact h.ord⟩;have:=h.sol;rw[<-hU.stf,<-hU.rE,mI hsl (qX r),hc]at this
   cases this
  ·rintro⟨h1,h2⟩;refine⟨hok,by omega,hU.ok,nA,by rw[<-hU.stf];exact h2,?_⟩;rw[<-hU.stf,<-hU.rE,mI hsl (qX r)]
   cases h:qW (dt r) (bf r) st with
   |nil=>exact absurd h h1
   |cons a l=>rfl
 unfold Ry kA kB kF kC ke kG kH kK kJ kL kM kN kO kT kU kV kY;simp-implicitDefEqProofs only[go_sem,↓reduceIte,Za,Zb,Zc,reduceCtorEq,Zf,Zg,Zh,Zi,Zd,Ze,f9,B9.aM 7 rfl];refine(c.cmp (dt r) (bf r) st _ A LD hSm).mono ?_;rintro y A1 ⟨⟨ws,O1,R1,-,-⟩,K1⟩;have l1:=R1.len;have ly:aU y=(qW (dt r) (bf r) st).length:=by rw[O1.sl.len,l1]
 have B71:=K1.bl B7 (by simp);have pY:cell A1 ⟨b7,1,none⟩=some b:=by rw[B71.cell];rfl
 have q21:=q2.aj K1;rw[ae];simp-implicitDefEqProofs only[go_sem,↓reduceIte,Za,Zb,Zc,reduceCtorEq,Zf,Zg,Zh,Zi,Zd,Ze,O1.sl.aq,ly,f7,pY,q21.aq,q21.len];obtain⟨c0,hc0⟩:∃c0:Bool,c0=decide (((qW (dt r) (bf r) st).length:Int)>0):=⟨_,rfl⟩
 rw[<-hc0];refine aD (dt r).be.length [61,13,11,60] rfl rfl (by omega) (by rfl) (by rfl) (fun i g X=>g 11=.bool (c0&&((dt r).be.take i).all fun x=>decide (sI st x.2=0)||decide (sI st x.1≠0))/\af (fun _=>False) A1 X) ⟨by simp-implicitDefEqProofs only[go_sem,↓reduceIte,Za,Zb,Zc,reduceCtorEq,ae,Zf,Zg,Zh,Zi,Zd,Ze,List.take_zero,List.all_nil,Bool.and_true],af.refl _ _⟩ ?_ ?_
 ·rintro i g X hi gi gn ⟨g11,K⟩;simp-implicitDefEqProofs only[go_sem,↓reduceIte,Za,Zb,Zc,reduceCtorEq,ae,Zf,Zg,Zh,Zi,Zd,Ze]at gi gn g11;have KX:=K1.trans K;obtain⟨sb,so,sc,rfl,-,hld⟩:=(q21.aj K).elem eH (i:=i) hi;have hx:=(hG.be _ (List.getElem_mem hi)).1;obtain⟨x,hxe⟩:∃x,x=(dt r).be[i]:=⟨_,rfl⟩
  rw[<-hxe]at hld hx;obtain⟨p1,p2,p3,p4⟩:=hx;have si:((dt r).be.take (i+1)).all (fun x=>decide (sI st x.2=0)||decide (sI st x.1≠0))=(((dt r).be.take i).all (fun x=>decide (sI st x.2=0)||decide (sI st x.1≠0))&&(decide (sI st x.2=0)||decide (sI st x.1≠0))):=by
   rw[List.take_succ_eq_append_getElem hi,List.all_append,<-hxe];simp
  obtain⟨bb,hbb⟩:∃bb:Bool,bb=(c0&&((dt r).be.take i).all fun x=>decide (sI st x.2=0)||decide (sI st x.1≠0)):=⟨_,rfl⟩
  rw[<-hbb]at g11;simp-implicitDefEqProofs only[go_sem,↓reduceIte,Za,Zb,Zc,reduceCtorEq,Zf,Zg,Zh,Zi,Zd,Ze,gi,ak,aC,hld];refine⟨by omega,?_⟩;refine aN (pE x) (by rfl) rfl rfl (List.all_eq_true.2 (fX _)) fun A2 b4 e4 z4 B4 K4=>?_;have DL:=KX.trans K4;obtain⟨x1,x2⟩:=x;obtain⟨j1,rfl⟩:∃j:Nat,x1=(j:Int):=⟨x1.toNat,by simp only at p1;omega⟩
  obtain⟨j2,rfl⟩:∃j:Nat,x2=(j:Int):=⟨x2.toNat,by simp only at p3;omega⟩
  simp only at p1 p2 p3 p4;obtain⟨qb,qo,qc,qm,hc2⟩:=fB (hs.ai DL (by simp)) (i:=j2) (by omega);obtain⟨qb',qo',qc',Ru,hc1⟩:=fB (hs.ai DL (by simp)) (i:=j1) (by omega);have Gx:cell A2 ⟨b4,0,none⟩=some (.int .i64 (j1:Int)):=by rw[B4.cell];rfl
  have Gy:cell A2 ⟨b4,1,none⟩=some (.int .i64 (j2:Int)):=by rw[B4.cell];rfl
  have ZZ:=DL.bl B9 (by simp);have c6:cell A2 ⟨b9,6,none⟩=some sv:=by rw[ZZ.cell];rfl
  rw[qm]at c6 Ru
  cases Ru
  have s1:sI st ((j1:Nat):Int)=st.getD j1 0:=by unfold sI;rw[Int.toNat_natCast]
  have s2:sI st ((j2:Nat):Int)=st.getD j2 0:=by unfold sI;rw[Int.toNat_natCast]
  simp only[s1,s2]at si;have Wo:(c0&&((dt r).be.take (i+1)).all fun x=>decide (sI st x.2=0)||decide (sI st x.1≠0))=(bb&&(decide (st.getD j2 0=0)||decide (st.getD j1 0≠0))):=by rw[si,<-Bool.and_assoc,<-hbb]
  have b21:(0:Int)<=(j2:Int):=by omega
  have b22:(j2:Int)<(st.length:Int):=by omega
  have b11:(0:Int)<=(j1:Int):=by omega
  have b12:(j1:Int)<(st.length:Int):=by omega
  have KK:=K.trans K4
  cases bb with
  |false=>
   simp-implicitDefEqProofs only[go_sem,↓reduceIte,Za,Zb,Zc,reduceCtorEq,ae,Zf,Zg,Zh,Zi,Zd,Ze,f9,g11,Wo,Bool.false_and];exact KK
  |true=>
  by_cases h2:st.getD j2 0=0
  ·have d2:(st.getD j2 0==0)=true:=by rw[h2];rfl
   simp-implicitDefEqProofs only[go_sem,↓reduceIte,Za,Zb,Zc,reduceCtorEq,ae,Zf,Zg,Zh,Zi,Zd,Ze,f9,g11,c6,Gy,ak,hc2,d2,b21,b22,Wo,decide_eq_true h2,Bool.true_or,Bool.and_true];exact KK
  have d2:(st.getD j2 0==0)=false:=by simpa using h2
  have e2:decide (st.getD j2 0=0)=false:=decide_eq_false h2
  by_cases h1:st.getD j1 0=0
  ·have d1:(st.getD j1 0 !=0)=false:=by rw[h1];rfl
   have e1:decide (st.getD j1 0≠0)=false:=decide_eq_false fun h=>h h1;simp-implicitDefEqProofs only[go_sem,↓reduceIte,Za,Zb,Zc,reduceCtorEq,ae,Zf,Zg,Zh,Zi,Zd,Ze,f9,g11,c6,Gx,Gy,ak,hc1,hc2,d1,d2,b11,b12,b21,b22,Wo,e1,e2,Bool.false_or,Bool.and_false];exact KK
  ·have d1:(st.getD j1 0 !=0)=true:=bne_iff_ne.2 h1;have e1:decide (st.getD j1 0≠0)=true:=decide_eq_true h1;simp-implicitDefEqProofs only[go_sem,↓reduceIte,Za,Zb,Zc,reduceCtorEq,ae,Zf,Zg,Zh,Zi,Zd,Ze,f9,g11,c6,Gx,Gy,ak,hc1,hc2,d1,d2,b11,b12,b21,b22,Wo,e1,e2,Bool.false_or,Bool.and_true];exact KK
 ·rintro g X gi ⟨g11,K⟩;rw[List.take_length]at g11;simp-implicitDefEqProofs only[go_sem,↓reduceIte,Za,Zb,Zc,reduceCtorEq,ae,Zf,Zg,Zh,Zi,Zd,Ze]at g11;have KX:=K1.trans K;have B9X:=KX.bl B9 (by simp);obtain⟨rt,hrt⟩:∃rt:Bool,rt=(c0&&AU (dt r).be st):=⟨_,rfl⟩
  have g11:g 11=.bool rt:=by rw[hrt];exact g11
  have YU:rt=true↔rF (dt r) us:=by
   rw[hrt,Bool.and_eq_true,afx,hc0,decide_eq_true_eq]
   constructor
   ·rintro⟨h1,h2⟩;exact⟨fun h=>by rw[h]at h1;simp at h1,h2⟩
   ·rintro⟨h1,h2⟩;refine⟨?_,h2⟩
    cases h:qW (dt r) (bf r) st with
    |nil=>exact absurd h h1
    |cons a l=>simp only[List.length_cons];omega
  simp-implicitDefEqProofs only[go_sem,↓reduceIte,Za,Zb,Zc,reduceCtorEq,Zf,Zg,Zh,Zi,Zd,Ze];unfold XM kA kB kF kJ kM kQ kS kT kU kV kY;simp-implicitDefEqProofs only[go_sem,↓reduceIte,Za,Zb,Zc,reduceCtorEq,Zf,Zg,Zh,Zi,Zd,Ze,f9,B9X.aM 7 rfl];refine(c.rbyt (dt r) (bf r) st _ X (LD.aj KX) hok (by omega) (by omega) hst).mono ?_;rintro pv X1 ⟨O5,o5,K5⟩;rw[<-hus]at O5;have hRl:=mK hE;have hbl:=BU (by omega) hU.ok us.length;rw[List.take_length]at hbl;have hlen:(ie (dt r) us).length<=100000:=by
   have:=aP (df (dt r)).length (by omega);unfold ie cC;simp only[List.length_append,dw]at hbl⊢;omega
  have DE:=KX.trans K5;rw[ae];simp-implicitDefEqProofs only[go_sem,↓reduceIte,Za,Zb,Zc,reduceCtorEq,Zf,Zg,Zh,Zi,Zd,Ze];refine(c.read (ie (dt r) us) pv X1 (hT.ai DE) O5.sl (by omega) fun G hG' he' _=>?_).mono ?_
  ·obtain⟨x1,_⟩:=tF hE (by omega) (by omega) hU.ok (m:=(ie (dt r) us).length) (by unfold ie;simp only[List.length_append,dw];omega) (by omega) [];rw[List.append_nil]at x1;rw[x1]at he';have:G=dt r:=(wD (r:=[]) (t:=[]) (gh hG') hE (by rw[he'])).1;rw[this];omega
  rintro x X2 ⟨K6,hx⟩;have Jk:=DE.trans K6;rw[ae];have e66:((6:Int)==6)=true:=rfl;have Ai:((0:Int)==0)=true:=rfl
  cases hrr:rt with
  |false=>
   have hno:¬rF (dt r) us:=fun h=>by have:=YU.2 h;rw[hrr]at this;cases this
   obtain rfl:x=.tuple #[.pointer none,.int .i64 6]:=by
    rcases hx with⟨G,ws,rn,Sc,he',rfl,RU⟩|⟨_,h⟩
    ·obtain⟨e1,e2⟩:=Es Sc.ok hok (by have:=Sc.len;have:=(de Sc.ok).lt;omega) (by omega) Sc.uk hU.ok he';subst e1 e2;exact absurd Sc hno
    ·exact h
   simp-implicitDefEqProofs only[go_sem,↓reduceIte,Za,Zb,Zc,reduceCtorEq,ae,Zf,Zg,Zh,Zi,Zd,Ze,g11,hrr,Bool.not_false,e66];exact hQ _ Jk
  |true=>
   have hV:=YU.1 hrr;obtain⟨rn,rfl,hRn⟩:∃rn,x=.tuple #[.pointer (some ⟨rn,0,none⟩),.int .i64 0]/\dI X2 rn (dt r) (rE us) (sq us):=by
    rcases hx with⟨G,ws,rn,Sc,he',rfl,RU⟩|⟨h,_⟩
    ·obtain⟨e1,e2⟩:=Es Sc.ok hok (by have:=Sc.len;have:=(de Sc.ok).lt;omega) (by omega) Sc.uk hU.ok he';subst e1 e2;exact⟨rn,rfl,RU⟩
    ·exact absurd rfl (h _ _ hV)
   have ZZ:=Jk.bl B9 (by simp);simp-implicitDefEqProofs only[go_sem,↓reduceIte,Za,Zb,Zc,reduceCtorEq,Zf,Zg,Zh,Zi,Zd,Ze,g11,hrr,Bool.not_true,Ai,f9,ZZ.aM 7 rfl];refine(c.is_ (dt r) ((bf r).map bt) (bf r) st rn _ X2 (hT.ai Jk) ⟨by rw[hU.rE,hU.stf];exact hRn,LD.aj Jk,hok,hsl⟩).mono ?_;rintro x2 X3 ⟨rfl,K7⟩;rw[ae];simp-implicitDefEqProofs only[go_sem,↓reduceIte,Za,Zb,Zc,reduceCtorEq,ae,Zf,Zg,Zh,Zi,Zd,Ze];exact hQ _ (Jk.trans K7)
def Ml (P:Program) (ι:aG) (k:FuncId):Prop:=∀(r:dX) (us:List UInt8) (v w:Value) (H:Hp),bg ι H->mY H v r->aO H w (w8 us)->an P k #[v,w] H fun x H'=>x=.bool true/\af (fun _=>False) H H'
theorem Wp {k:FuncId} (hk:al P k (Io ι) Ip 2) (c:XN P ι):Ml P ι k:=by
 intro r us v w H hT hv hw;refine qI fun Q hQ=>?_;have hvr:=hv;obtain⟨h0,ro,be,di,sa,mo,el,rfl,_⟩:=hv;refine ah hk (args:=[_,_]) (by simp) ?_;unfold Io Ip kA kB kF kC kD ke kG kH kI kL kM kQ kR kU kV kY kZ;simp only[go_sem,Za,Zb];refine ay fun H1 b2 e1 z1 B1 K1=>?_;have bQ:Bl H1 b2 [.int .u8 (r.n:Int),ro,be,di,sa,mo,el]:=B1;simp only[go_sem,Za,Zb];refine(c.aw H1 (hT.ai K1)).mono ?_;rintro x H2 ⟨rfl,K2⟩;have dB:=K1.trans K2;have kx:=K2.bl bQ (by simp);rw[ae];simp only[go_sem,Za,Zb,Bool.not_true,kx.aM 7 rfl];refine(c.mak r _ H2 (mY.aj hvr dB)).mono ?_;rintro x H3 ⟨fv,lv,mv,uv,rfl,hP,hL,hM,hU,K3⟩;have gg:=dB.trans K3;have hP:=hP.fl;have hP0:=hP;have hM0:=hM;obtain⟨s,b,d,a,m,ms,rfl,_⟩:=hP;obtain⟨s',b',d',a',m',rfl,_⟩:=hM;rw[ae];simp only[go_sem,Za,Zb];refine ay fun H4 b5 e4 z4 B4 K4=>?_;have rZ:Bl H4 b5 [.slice none 0 0,.slice none 0 0,.slice none 0 0,.slice none 0 0,.slice none 0 0]:=B4;simp only[go_sem,Za,Zb];refine ay fun H5 b7 e5 z5 B5 K5=>?_;have yU:Bl H5 b7 [.slice none 0 0,.slice none 0 0,.slice none 0 0,.slice none 0 0,.slice none 0 0]:=B5;have s4:=K4.size;have s5:=K5.size;have B45:=K5.bl rZ (by simp);have t4:=B45.bM (o:=0) (n:=5) (by simp);have C5:=B45.aB 0 [s,b,d,a,m];have L1:af (fun q=>q=b5) H5 (aB H5 ⟨b5,0,none⟩ [s,b,d,a,m]):=(af.refl _ _).aB _ (.inl rfl);have D7:=L1.bl yU (by omega);have t7:=D7.bM (o:=0) (n:=5) (by simp);have C7:=D7.aB 0 [s',b',d',a',m'];have L2:af (fun q=>q=b7) (aB H5 ⟨b5,0,none⟩ [s,b,d,a,m]) (aB (aB H5 ⟨b5,0,none⟩ [s,b,d,a,m]) ⟨b7,0,none⟩ [s',b',d',a',m']):=(af.refl _ _).aB _ (.inl rfl);have ha:bO #[s,b,d,a,m]:=hP0.bO;have YD:bO #[s',b',d',a',m']:=hM0.bO;simp only[go_sem,Za,Zb,t4,t7];refine⟨ha,?_⟩;rw[ae];simp only[go_sem,Za,Zb,t7];refine⟨YD,?_⟩;generalize aB (aB H5 ⟨b5,0,none⟩ [s,b,d,a,m]) ⟨b7,0,none⟩ [s',b',d',a',m']=H6 at L2 C7⊢;have K36:af (fun _=>False) H3 H6:=((K4.trans K5).trans' L1 fun q hq h=>by omega).trans' L2 fun q hq h=>by omega
 have Fy:=gg.trans K36;have C7':Bl H6 b7 [s',b',d',a',m']:=C7;have m6:=hM0.aj K36;have hT6:=hT.ai Fy;have hok:=Gk r;have hnu:=nC r;have nQ:=pf r;have hmk:=fo r;obtain⟨ua,uc,rfl,-⟩:=hU.mk;have m5:=hM0.sl5;have lm:aU s'=jR r:=by
  obtain⟨q1,q2,q3,q4,q5,e,h1,_⟩:=hM0
  cases e
  rw[h1.len,nQ]
 rw[ae];simp only[go_sem,Za,Zb];refine aaK (n:=jR r) (b7:=b7) (ua:=ua) (un:=(cN (bf r)).length) (uc:=uc) (by rfl) (by rfl) C7' m5.1 lm (by omega) m5 fun H7 b9 bz B9 Z9 h9 hz hne K7=>?_;have Z5:=Fy.trans K7;have C77:=K7.bl C7' (by simp);have s6:=Fy.size;have l7:=C7'.lt;have c96:∀{A:Hp},Bl A b9 [s',b',d',a',m',.slice ua (cN (bf r)).length uc,.slice (some ⟨bz,0,none⟩) (jR r) (jR r)]->cell A ⟨b9,6,none⟩=some (.slice (some ⟨bz,0,none⟩) (jR r) (jR r)):=fun B=>by rw[B.cell];rfl
 rw[<-Wn us]at Z9;simp only[go_sem,Za,Zb,c96 B9];refine aD (jR r) [36,10,41,35] rfl rfl (by omega) (by rfl) (by rfl) (fun i g A=>Bl A bz (iL (gq us (jR r) i))/\af (fun q=>q=bz) H7 A) ⟨Z9,af.refl _ _⟩ ?_ ?_
 ·rintro i g A hi gi gn ⟨Z,K⟩;simp only[go_sem,Za,Zb,ae]at gi gn;have BA:=K.bl B9 (Ne.symm hne);have KA:=Z5.trans' K fun q hq e=>by omega
  by_cases hiu:(i:Int)<(us.length:Int)
  ·have d1:decide ((i:Int)<(us.length:Int))=true:=decide_eq_true hiu;obtain⟨ub,uo,uc',hue,-,hcu⟩:=(hw.ai KA (by simp)).cells (by intro e;have:=congrArg List.length e;rw[aK,List.length_nil]at this;omega);have hci:=hcu i (by rw[aK];omega);rw[jH _ _ (by omega)]at hci;rw[aK]at hue;have w2:IntKind.i64.wrap ((((us.getD i 0).toNat:Nat):Int).tmod 6)=(((us.getD i 0).toNat % 6:Nat):Int):=by
    rw[show(6:Int)=((6:Nat):Int)from rfl,cg];exact IntWalk.i64_in _ (by omega)
   have ts:=Z.bu (o:=i) (by rw[aA,x8];exact hi);simp only[go_sem,Za,Zb,gi,c96 BA,ak,hue,hci,d1,w2,ts];refine⟨by omega,by omega,by omega,?_⟩;rw[ae];simp only[go_sem,Za,Zb,ae];have ZS:=Z.az i (.int .i64 (((us.getD i 0).toNat % 6:Nat):Int));rw[lh,Mk (by omega)]at ZS;exact⟨ZS,K.trans ((af.refl _ _).az _ (.inl rfl))⟩
  ·have d1:decide ((i:Int)<(us.length:Int))=false:=decide_eq_false hiu;simp only[go_sem,Za,Zb,ae,gi,hw.aq,hw.len,aK,d1];rw[Iq (by omega)];exact⟨Z,K⟩
 ·rintro g A gi ⟨Z,K⟩;have BA:=K.bl B9 (Ne.symm hne);have KA:af (fun _=>False) H6 A:=K7.trans' K fun q hq e=>by omega
  have Jo:=Fy.trans KA;have C7A:=KA.bl C7' (by simp);obtain⟨st,hst⟩:∃st,st=gq us (jR r) (jR r):=⟨_,rfl⟩
  rw[<-hst]at Z;have hsl:st.length=jR r:=by rw[hst,x8]
  have Y7:∀u∈st,0<=u/\u<=256:=by rw[hst];exact Rz _ _ _
  have hSv:aO A (.slice (some ⟨bz,0,none⟩) (jR r) (jR r)) (iL st):=(bq.new (n:=jR r) (c:=jR r) Z (by rw[aA,hsl]) rfl).sl;have hRR:dY A (.agg #[s',b',d',a',m',.slice ua (cN (bf r)).length uc,.slice (some ⟨bz,0,none⟩) (jR r) (jR r)]) (dt r) (bf r) st:=⟨_,_,_,_,_,_,_,rfl,m6.aj KA,(hU.ai K36 (by simp)).ai KA (by simp),hSv⟩
  have fin:∀X,af (fun _=>False) A X->Q (.bool true) X:=fun X KX=>by rw[hQ];exact⟨rfl,Jo.trans KX⟩
  have hTA:=hT.ai Jo;simp only[go_sem,Za,Zb];refine aaL c (r:=r) (st:=st) (b7:=b7) (b9:=b9) (by rfl) (by rfl) hTA C7A BA hRR (by rw[hsl,nQ]) Y7 fin
end Go.Mg
