/- Lemmas of ours. No conditions. -/
import Derived.Test.YteeemadonfcliabGreatDoorMgOpen3
import Derived.Test.YteeemadonfcliabGreatDoorMgVE
import Derived.Test.YteeemadonfcliabGreatDoorMgTvr
set_option linter.all false
set_option maxRecDepth 100000
namespace Go.Mg
open Go Go.ChangeShapes Go.WideShapes Go.RowKit
section
variable {H:Type} {enc:TypeId×Value->H} {P:Program}
theorem tH {n:Int} (h:(Lit.int .u8 n).wf=true):0<=n/\n<=255:=by
 simp only[Lit.wf,Bool.and_eq_true,decide_eq_true_eq]at h;exact⟨h.1,h.2⟩
def toU (p:Int×Int):UInt8×UInt8:=(UInt8.ofNat p.1.toNat,UInt8.ofNat p.2.toNat)
theorem nF {W:Hp} {v:Value} {qs:List (Int×Int)} (hq:∀p∈qs,(Lit.int .u8 p.1).wf=true/\(Lit.int .u8 p.2).wf=true) (h:bk (kE .u8) 2 W v qs):bk jQ 2 W v (qs.map toU):=by
 refine h.conv (by simp) ?_;have:∀l:List (Int×Int),(∀p∈l,(Lit.int .u8 p.1).wf=true/\(Lit.int .u8 p.2).wf=true)->(l.map toU).flatMap jQ=l.flatMap (kE .u8):=fun l hl=>by
  induction l with
  |nil=>rfl
  |cons p l ih=>
   rw[List.map_cons,List.flatMap_cons,List.flatMap_cons,ih fun q hq=>hl q (List.mem_cons_of_mem _ hq)]
   congr 1
   have h1:=tH (hl p List.mem_cons_self).1;have h2:=tH (hl p List.mem_cons_self).2;have e:∀n:Int,0<=n->n<=255->(((UInt8.ofNat n.toNat).toNat:Nat):Int)=n:=fun n a b=>by
    rw[UInt8.toNat_ofNat'];omega
   simp only[jQ,kE,toU,e _ h1.1 h1.2,e _ h2.1 h2.2]
 exact this qs hq
theorem Ls {W:World} {r:Reach} {b0 base:Nat} {sp:Nat->Bool} {held:Bool} {t tb tl ts te:TypeId} {n1 n2 n3 n4 n5 n6 n7:String} {m1 m2 m3 m4 m5 m6 m7:Bool} {g1 g2 g3 g4 g5 g6 g7 p1 p2 p3 p4 p5 p6 p7:String} {o1 o2 o3 o4 o5 o6 o7:Nat} {v:Value} {d:DataW H} {ps:List MemPlace}
  (ht:P.underlying t=some (.struct #[⟨n1,tb,0,m1,g1,p1,o1⟩,⟨n2,tl,1,m2,g2,p2,o2⟩,⟨n3,ts,2,m3,g3,p3,o3⟩,⟨n4,ts,3,m4,g4,p4,o4⟩,⟨n5,ts,4,m5,g5,p5,o5⟩,⟨n6,ts,5,m6,g6,p6,o6⟩,⟨n7,tl,6,m7,g7,p7,o7⟩])) (hc:P.cellsOf t=7) (hb:P.underlying tb=some (.int .u8)) (cb:P.cellsOf tb=1)
  (hl:P.underlying tl=some (.slice tb)) (cl:P.cellsOf tl=1) (hs:P.underlying ts=some (.slice te)) (cs1:P.cellsOf ts=1)
  (he:P.underlying te=some (.array 2 tb)) (ce:P.cellsOf te=2) (hval:Value.okWide P W r b0 t v) (hd:DataW.Trod enc P W base sp held t v d ps):∃x:cQ,lz W.heap v x:=by
 have hv:∃cs:Array Value,v=.agg cs/\cs.size=P.cellsOf t:=by
  simp only[Value.okWide,ht]at hval;obtain⟨cs,h1,h2,_⟩:=hval;exact⟨cs,h1,h2⟩
 obtain⟨cs,rfl,hcs⟩:=hv;rw[hc]at hcs;obtain⟨fuel,hf⟩:=hd;obtain⟨xs,m,-,-,PU,hxl,hel⟩:=DataW.trod_struct ht hf;have hxl:xs.length=7:=hxl;have hcl:(Value.cells (.agg cs):Array Value)=cs:=rfl;rw[hcl]at hel PU;obtain⟨ccs⟩:=cs;have hcs:ccs.length=7:=hcs;obtain⟨v0,v1,v2,v3,v4,v5,v6,rfl⟩:∃v0 v1 v2 v3 v4 v5 v6,ccs=[v0,v1,v2,v3,v4,v5,v6]:=by
  match ccs,hcs with
  |[a,b,c,d,e,f,g],_=>exact⟨a,b,c,d,e,f,g,rfl⟩
 have f0:DataW.trod enc P W base sp held m tb (([v0,v1,v2,v3,v4,v5,v6].drop 0).take (P.cellsOf tb))=xs[0]?:=hel 0 _ rfl;have f1:DataW.trod enc P W base sp held m tl (([v0,v1,v2,v3,v4,v5,v6].drop 1).take (P.cellsOf tl))=xs[1]?:=hel 1 _ rfl;have f2:DataW.trod enc P W base sp held m ts (([v0,v1,v2,v3,v4,v5,v6].drop 2).take (P.cellsOf ts))=xs[2]?:=hel 2 _ rfl;have f3:DataW.trod enc P W base sp held m ts (([v0,v1,v2,v3,v4,v5,v6].drop 3).take (P.cellsOf ts))=xs[3]?:=hel 3 _ rfl;have f4:DataW.trod enc P W base sp held m ts (([v0,v1,v2,v3,v4,v5,v6].drop 4).take (P.cellsOf ts))=xs[4]?:=hel 4 _ rfl;have f5:DataW.trod enc P W base sp held m ts (([v0,v1,v2,v3,v4,v5,v6].drop 5).take (P.cellsOf ts))=xs[5]?:=hel 5 _ rfl;have f6:DataW.trod enc P W base sp held m tl (([v0,v1,v2,v3,v4,v5,v6].drop 6).take (P.cellsOf tl))=xs[6]?:=hel 6 _ rfl;rw[List.getElem?_eq_getElem (by omega),cb]at f0;rw[List.getElem?_eq_getElem (by omega),cl]at f1 f6;rw[List.getElem?_eq_getElem (by omega),cs1]at f2 f3 f4 f5;obtain⟨a0,e0,-,w0⟩:=DataW.trod_int hb f0;obtain⟨u1,e1,l1,S1⟩:=jY hl hb cb f1;obtain⟨u2,e2,q2,hq2,_,S2⟩:=dZ hs he hb cb ce f2;obtain⟨u3,e3,q3,hq3,_,S3⟩:=dZ hs he hb cb ce f3;obtain⟨u4,e4,q4,hq4,_,S4⟩:=dZ hs he hb cb ce f4;obtain⟨u5,e5,q5,hq5,_,S5⟩:=dZ hs he hb cb ce f5;obtain⟨u6,e6,l6,S6⟩:=jY hl hb cb f6;have k0: [v0]=[Value.int .u8 a0]:=e0;have k1: [v1]=[u1]:=e1;have k2: [v2]=[u2]:=e2;have k3: [v3]=[u3]:=e3;have k4: [v4]=[u4]:=e4;have k5: [v5]=[u5]:=e5;have k6: [v6]=[u6]:=e6;simp only[List.cons.injEq,and_true]at k0 k1 k2 k3 k4 k5 k6;clear e0 e1 e2 e3 e4 e5 e6;subst k0 k1 k2 k3 k4 k5 k6;have r0:=tH w0;refine⟨⟨a0.toNat,l1,q2.map toU,q3.map toU,q4.map toU,q5.map toU,l6⟩,by show a0.toNat<256;omega,v1,v2,v3,v4,v5,v6,?_,S1,nF hq2 S2,nF hq3 S3,nF hq4 S4,nF hq5 S5,S6⟩;have:((a0.toNat:Nat):Int)=a0:=by omega
 simp only[this]
end
end Go.Mg
namespace Go.Mg
open Go Go.RowKit
structure X0 where
 d:UInt8
 a:Int
 b:Int
 nm:List UInt8
def acO (x:X0):List Value:=[.int .u8 x.d.toNat,.int .i64 x.a,.int .i64 x.b,sV x.nm]
structure SmK (k:Nat) (F:dz):Prop where
 st:F.st.length<=k
 be:F.be.length<=k
 di:F.di.length<=k
 sa:F.sa.length<=k
 mo:F.mo.length<=k
structure Vv (k:Nat) (f:Fr) (A:Hp) (b2 b3 b6:Nat) (F:dz) (x:X0) (s b d a m:Value):Prop where
 h2:f 2=.pointer (some ⟨b2,0,none⟩)
 h3:f 3=.pointer (some ⟨b3,0,none⟩)
 h5:f 5=.int .i64 (F.st.length:Int)
 h6:f 6=.pointer (some ⟨b6,0,none⟩)
 B2:Bl A b2 [s,b,d,a,m]
 B3:Bl A b3 (acO x)
 B6:Bl A b6 [.int .i64 x.a,.int .i64 x.b]
 S:bk cL 2 A s F.st
 Pb:nT A b F.be
 Pd:nT A d F.di
 Pa:nT A a F.sa
 M:bk oz 2 A m F.mo
 n3:b3≠b2
 n6:b6≠b2
 sm:SmK k F
 k1:k<=1000
 ne:F.st≠[]
 o:∀c∈[s,b,d,a,m],∀q,aV c q->q≠b2
variable {k b2 b3 b6:Nat} {f:Fr} {A:Hp} {F:dz} {s b d a m v:Value}
theorem Vv.w {x:X0} (h:Vv k f A b2 b3 b6 F x s b d a m):∀c∈[s,b,d,a,m],∀q,aV c q->¬(q=b2\/A.size<=q):=by
 intro c hc q hq;have hne:=h.o c hc q hq;have:q<A.size:=by
  simp only[List.mem_cons,List.not_mem_nil,or_false]at hc;rcases hc with rfl|rfl|rfl|rfl|rfl
  ·exact h.S.bE hq
  ·exact h.Pb.bE hq
  ·exact h.Pd.bE hq
  ·exact h.Pa.bE hq
  ·exact h.M.bE hq
 omega
theorem Vv.bE {x:X0} (h:Vv k f A b2 b3 b6 F x s b d a m) {cs:List Value} (hcs:∀c∈cs,c=v\/c∈[s,b,d,a,m]) (hv:∀q,aV v q->(∃c0∈[s,b,d,a,m],aV c0 q)\/A.size<=q):∀c∈cs,∀q,aV c q->(∃c0∈[s,b,d,a,m],aV c0 q)\/A.size<=q:=fun c hc q hq=>by
 rcases hcs c hc with rfl|h'
 ·exact hv q hq
 ·exact .inl ⟨c,h',hq⟩
theorem Vv.cl {P:Program} {j:FuncId} (hc:cJ cL P j) {x:X0} (h:Vv k f A b2 b3 b6 F x s b d a m) {Kp:Value->Hp->Prop}
  (hK:∀v A2,ct cL 2 A2 v F.st->(∀q,ay v q->A.size<=q)->af (fun _=>False) A A2->ct cL 2 (ax A2 ⟨b2,0,none⟩ v) v F.st->Bl (ax A2 ⟨b2,0,none⟩ v) b2 [v,b,d,a,m]->af (fun q=>q=b2\/A.size<=q) A (ax A2 ⟨b2,0,none⟩ v)->af (fun q=>q=b2) A2 (ax A2 ⟨b2,0,none⟩ v)->Kp v A2):ak P j #[s] A Kp:=by
 have hk:=h.sm.st;have FC:=h.k1;have hb2:=h.B2.lt;refine(hc F.st s A h.S (by omega)).mono fun v A2 ⟨O,o,K2⟩=>?_;have k3:af (fun q=>q=b2) A2 (ax A2 ⟨b2,0,none⟩ v):=(af.refl _ _).ax _ (.inl rfl);refine hK v A2 O o K2 (O.ag k3 fun q hq e=>?_) ((K2.bl h.B2 (by simp)).ax 0 v) (K2.any.trans (k3.mono fun q _ e=>.inl e)) k3;have:=o q hq;omega
theorem PV {cs:Array Value} (h:bI cs):cs.toList.all (fun v=>v.oneCell')=true:=List.all_eq_true.2 h
theorem fh.cs {H:Hp} (h:fh H v F):∃cs:List Value,v=.agg cs.toArray/\cs.length=5/\(cs.all fun v=>v.oneCell')=true:=by
 have h0:=h;obtain⟨s,b,d,a,m,rfl,_⟩:=h;exact⟨[s,b,d,a,m],rfl,rfl,PV h0.bI⟩
end Go.Mg
namespace Go.Mg
open Go Go.RowKit
theorem fh.nil {H:Hp} {cs:List Value} {F:dz} (h:fh H (.agg cs.toArray) F):aq (cs.getD 0 undef)/\aO (cs.getD 0 undef)=F.st.length/\cs[0]?=some (cs.getD 0 undef):=by
 obtain⟨s,b,d,a,m,e,h1,_⟩:=h;have e:cs=[s,b,d,a,m]:=by simpa using congrArg (fun v:Value=>match v with|.agg c=>c.toList|_=>[]) e
 subst e;exact⟨h1.aq,h1.len,rfl⟩
end Go.Mg
namespace Go.Mg
open Go Go.ChangeShapes Go.WideShapes Go.RowKit
section
variable {H:Type} {enc:TypeId×Value->H} {P:Program}
end
end Go.Mg
namespace Go.Mg
open Go Go.ChangeShapes Go.WideShapes Go.RowKit
section
variable {H:Type} {enc:TypeId×Value->H} {P:Program}
theorem GP {W:World} {base:Nat} {sp:Nat->Bool} {held:Bool} {t tb:TypeId} {n1 n2:String} {m1 m2:Bool} {g1 g2 p1 p2:String} {o1 o2:Nat} {cs:List Value} {x:DataW H×List MemPlace} {fuel:Nat}
  (ht:P.underlying t=some (.struct #[⟨n1,tb,0,m1,g1,p1,o1⟩,⟨n2,tb,1,m2,g2,p2,o2⟩])) (hc:P.cellsOf t=2) (hb:P.underlying tb=some (.int .u8)) (cb:P.cellsOf tb=1)
  (hf:DataW.trod enc P W base sp held fuel t cs=some x):∃a:UInt8×UInt8,True/\cs=jQ a:=by
 obtain⟨xs,m,-,-,PU,hxl,hel⟩:=DataW.trod_struct ht hf;have hxl:xs.length=2:=hxl;rw[hc]at PU;obtain⟨v0,v1,rfl⟩:∃v0 v1,cs=[v0,v1]:=by
  match cs,PU with
  |[a,b],_=>exact⟨a,b,rfl⟩
 have f0:DataW.trod enc P W base sp held m tb (([v0,v1].drop 0).take (P.cellsOf tb))=xs[0]?:=hel 0 _ rfl;have f1:DataW.trod enc P W base sp held m tb (([v0,v1].drop 1).take (P.cellsOf tb))=xs[1]?:=hel 1 _ rfl;rw[List.getElem?_eq_getElem (by omega),cb]at f0 f1;obtain⟨a0,e0,-,w0⟩:=DataW.trod_int hb f0;obtain⟨a1,e1,-,w1⟩:=DataW.trod_int hb f1;have k0: [v0]=[Value.int .u8 a0]:=e0;have k1: [v1]=[Value.int .u8 a1]:=e1;simp only[List.cons.injEq,and_true]at k0 k1;subst k0 k1;have r0:=tH w0;have r1:=tH w1;refine⟨(UInt8.ofNat a0.toNat,UInt8.ofNat a1.toNat),trivial,?_⟩;have q0:(((UInt8.ofNat a0.toNat).toNat:Nat):Int)=a0:=by rw[UInt8.toNat_ofNat'];omega
 have q1:(((UInt8.ofNat a1.toNat).toNat:Nat):Int)=a1:=by rw[UInt8.toNat_ofNat'];omega
 simp only[jQ,q0,q1]
theorem Lt {W:World} {r:Reach} {b0 base:Nat} {sp:Nat->Bool} {held:Bool} {l t tb:TypeId} {n1 n2:String} {m1 m2:Bool} {g1 g2 p1 p2:String} {o1 o2:Nat} {v:Value} {d:DataW H} {ps:List MemPlace}
  (hl:P.underlying l=some (.slice t)) (ht:P.underlying t=some (.struct #[⟨n1,tb,0,m1,g1,p1,o1⟩,⟨n2,tb,1,m2,g2,p2,o2⟩])) (hc:P.cellsOf t=2) (hb:P.underlying tb=some (.int .u8)) (cb:P.cellsOf tb=1)
  (hval:Value.okWide P W r b0 l v) (hd:DataW.Trod enc P W base sp held l v d ps):∃xs:List (UInt8×UInt8),bk jQ 2 W.heap v xs:=by
 obtain⟨a0,len,cap,rfl⟩:=okWide_slice hl hval;obtain⟨fuel,hf⟩:=hd;obtain⟨v,h1,xs,-,-,h2⟩:=nD gh (by omega) (fun _=>True) (0,0) hl hc (fun h=>GP ht hc hb cb h) hf;simp[Value.cells]at h1;subst h1;exact⟨xs,h2⟩
end
end Go.Mg
