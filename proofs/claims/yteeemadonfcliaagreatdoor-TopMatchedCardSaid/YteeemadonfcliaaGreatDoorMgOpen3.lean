/- Lemmas of ours. No conditions. -/
import Derived.Test.YteeemadonfcliaaGreatDoorMgEl
import Derived.ProofKit
import Derived.LaidMore
import Derived.OpenShut
import Derived.Stop.Joined
namespace Go.Mg
open Go Go.ChangeShapes Go.WideShapes Go.RowKit
section
variable {H:Type} {enc:TypeId×Value->H} {P:Program}
theorem jH {W W':World} (hl:laidOutB P=true) (hb:Below W.heap.size W W') {sp:Nat->Bool}:
  ∀{ts:List TypeId} {vs:List Value} {ds:List (DataW H)} {ps:List MemPlace},ts.all (fun t=>P.readableRec t&&decide (t<P.types.size))=true→
   DataW.TrodAll enc P W 0 (fun _=>true) true ts vs ds ps->(∀p∈ps,p.block<W.heap.size)->(∀p∈ps,sp p.block=true)->DataW.TrodAll enc P W' 0 sp true ts vs ds ps
 |[],_,_,_,_,h,_,_=>by
  obtain⟨rfl,rfl,rfl⟩:=trodAll_nil h;exact trodAll_mk0
 |t::ts,_,_,_,hp,h,hlt,hsp=>by
  obtain⟨v,vs1,d,ds1,a,b,rfl,rfl,rfl,h1,h2⟩:=trodAll_cons h;simp only[List.all_cons,Bool.and_eq_true,decide_eq_true_eq]at hp;have i1:=WideElems.Trod_stays (sp':=sp) hl hp.1.1 hp.1.2 h1 (fun x hx=>hb.same (hlt x (by simp[hx]))) (fun x hx=>hsp x (by simp[hx]));have i2:=jH hl hb (sp:=sp) (by simpa using hp.2) h2 (fun p hp=>hlt p (by simp[hp])) (fun p hp=>hsp p (by simp[hp]));exact⟨a,b,i1,i2,rfl⟩
theorem HI {f:Func} {s:ChangeSpec} {apart fresh handsOn again:Bool} {W W':World} {args:Array Value} {ds gs:List (DataW H)} {before:List MemPlace} {t:TypeId}
  (hW:DataW.Whole enc P f.params.toList s.vars apart W args.toList ds gs before) (hv:s.vars=[]) (hfn:(s.fn H (ds++gs))={results:=[.lit (.bool true)],args:=ds})
  (hb:Below W.heap.size W W') (hr:f.resultTypes=#[t]) (ht:P.underlying t=some .bool) (hl:laidOutB P=true) (hp:f.params.toList.all (fun t=>P.readableRec t&&decide (t<P.types.size))=true):
  s.post enc P f apart fresh handsOn again W args (.bool true) W':=by
 have hlt:=hW.lt;have Sf:=hW;obtain⟨p,q,hA,hV,rfl,hz,hn⟩:=Sf;have hV':=hV;rw[hv]at hV';obtain⟨rfl,rfl⟩:=trodVars_none hV';simp only[List.append_nil]at hlt hz hn;have hres:∀(b:Nat) (sp:Nat->Bool) (hd:Bool),DataW.TrodAll enc P W' b sp hd f.resultTypes.toList ((Value.bool true).resultList f.resultTypes.size) (s.fn H (ds++[])).results []:=fun b sp hd=>by
  rw[hfn,hr];exact trodAll_mk1 (shut_bool ht true)
 have hargs:∀sp:Nat->Bool,(∀x∈p,sp x.block=true)->DataW.TrodAll enc P W' 0 sp true f.params.toList args.toList (s.fn H (ds++[])).args p:=fun sp hsp=>by
  rw[hfn];exact jH hl hb hp hA hlt hsp
 have Na:∀sp:Nat->Bool,DataW.TrodVars enc P W' sp s.vars (s.fn H (ds++[])).vars []:=fun sp=>by
  rw[hfn,hv];rfl
 refine⟨ds,[],_,[],p,[],hW,hres _ _ _,hargs _ (fun x hx=>by simpa using hlt x hx),Na _,hb.frame _,fun _=>?_⟩;refine⟨ok_one hr rfl (okWide_bool_mk ht true),_,_,([]++p)++[],⟨[]++p,[],trodAll_append (hargs _ (fun _ _=>rfl)) (hres _ _ _),Na _,rfl,?_,?_⟩,?_⟩
 ·intro b off hx;rw[hb.frozen (p:=⟨b,off,none⟩) (hlt (.cell b off) (by simpa using hx))];exact hz b off (by simpa using hx)
 ·intro ha;simpa using hn ha
 ·intro x hx _;simpa using hx
theorem re {W W':World} (hk:af (fun _=>False) W.heap W'.heap) (hs:aW W W'):Below W.heap.size W W':=
 ⟨hs.os,hs.tape,hs.output,hk.size,fun k hlt=>hk.at_ k hlt (fun h=>h)⟩
theorem Ar {f:FuncId} {fn:Func} {s:ChangeSpec} {apart fresh handsOn again:Bool} {W:World} {args:Array Value} {ds gs:List (DataW H)} {before:List MemPlace} {t:TypeId}
  (hW:DataW.Whole enc P fn.params.toList s.vars apart W args.toList ds gs before) (hv:s.vars=[]) (hfn:(s.fn H (ds++gs))={results:=[.lit (.bool true)],args:=ds})
  (hr:fn.resultTypes=#[t]) (ht:P.underlying t=some .bool) (hl:laidOutB P=true) (hp:fn.params.toList.all (fun t=>P.readableRec t&&decide (t<P.types.size))=true)
  (h:an P f args W.heap fun v H'=>v=.bool true/\af (fun _=>False) W.heap H'):
  Calls P f args W fun e W'=>∃v,e=.returned v/\s.post enc P fn apart fresh handsOn again W args v W':=by
 refine(h W rfl).mono ?_;rintro e W' ⟨v,rfl,⟨rfl,hk⟩,hs⟩;exact⟨_,rfl,HI hW hv hfn (re hk hs) hr ht hl hp⟩
end
end Go.Mg
namespace Go.Mg
open Go Go.ChangeShapes Go.WideShapes Go.RowKit
section
variable {H:Type} {enc:TypeId×Value->H} {P:Program}
theorem vh {w:World} {base:Nat} {sp:Nat->Bool} {held:Bool} {fuel n:Nat} {t e:TypeId} {k:IntKind} {cs:List Value} {ns:List Int} {p:List MemPlace}
  (ht:P.underlying t=some (.array n e)) (he:P.underlying e=some (.int k)) (h1:P.cellsOf e=1) (hn:P.cellsOf t=n) (hns:ns.length=n)
  (h:DataW.trod enc P w base sp held fuel t cs=some (.agg (ns.map fun x=>.lit (.int k x)),p)):cs=ns.map (Value.int k):=by
 obtain⟨xs,m,-,hx,hl,hxl,hel⟩:=DataW.trod_array ht h;simp only[Prod.mk.injEq,DataW.agg.injEq]at hx;obtain⟨hx,-⟩:=hx;apply List.ext_getElem
 ·simp[hns,hl,hn]
 ·intro i hi ma;have hin:i<n:=by omega
  have:=hel i hin;rw[h1,Nat.mul_one]at this;have Sl:i<xs.length:=by omega
  rw[List.getElem?_eq_getElem Sl]at this;obtain⟨y,hc,hy,-⟩:=DataW.trod_int he this;have e1:(cs.drop i).take 1=[cs[i]]:=by
   rw[List.drop_eq_getElem_cons hi];rfl
  rw[e1]at hc;simp only[List.cons.injEq,and_true]at hc;rw[hc,List.getElem_map];have F5:i<ns.length:=by omega
  have hg:(ns.map fun x=>(DataW.lit (.int k x):DataW H))[i]?=(xs.map (·.1))[i]?:=by rw[hx]
  rw[List.getElem?_map,List.getElem?_map,List.getElem?_eq_getElem F5,List.getElem?_eq_getElem Sl,hy]at hg;simp at hg;rw[hg]
theorem DK {w:World} {name:String} {g:Nat} {n:Nat} {t e:TypeId} {k:IntKind} {cs:Array Value} {ns:List Int} {p:List MemPlace} {fuel:Nat} {d:DataW Unit}
  (hg:P.globalNamed name=some g) (hv:w.var? P name=some cs) (hd:DataW.trod (fun _=>()) P w 0 (fun _=>true) false fuel t cs.toList=some (d,p)) (hdd:d=.agg (ns.map fun x=>.lit (.int k x)))
  (ht:P.underlying t=some (.array n e)) (he:P.underlying e=some (.int k)) (h1:P.cellsOf e=1) (hn:P.cellsOf t=n) (hns:ns.length=n) (h0:0<n) {ps:List MemPlace}
  (hrow:∀x∈MemPlace.row ⟨g,0,none⟩ cs.size,x∈ps) (hz:∀b off,MemPlace.cell b off∈ps->∃c t,w.heap[b]?=some (.cells c t (0,0))):Bl w.heap g (ns.map (Value.int k)):=by
 subst hdd;have En:=vh ht he h1 hn hns hd;have vm:0<cs.size:=by
  have:=congrArg List.length En;simp at this;omega
 obtain⟨c,T,hc⟩:=hz g 0 (hrow _ (MemPlace.mem_row.2 ⟨0,vm,rfl⟩));refine⟨T,?_⟩;rw[hc];have:w.var? P name=some c:=by simp[World.var?,hg,hc]
 rw[hv]at this
 cases this
 rw[<-En]
end
end Go.Mg
namespace Go.Mg
open Go Go.ChangeShapes Go.WideShapes Go.RowKit
section
variable {H:Type} {enc:TypeId×Value->H} {P:Program}
theorem cellAt {w:World} {a:Addr} {u:Value} (h:w.cell? a=some u):a.spot=none/\∃c e fr,w.heap[a.block]?=some (.cells c e fr)/\c[a.off]?=some u:=by
 unfold World.cell? at h
 split at h
 ·rename_i hb hs
  split at h
  ·cases h
  ·rename_i hn;exact⟨by simpa using hn,_,_,_,hs,h⟩
 ·simp at h
theorem rh {W:World} {base:Nat} {sp:Nat->Bool} {held:Bool} {t e:TypeId} {k:IntKind} {cs:List Value} {x:DataW H×List MemPlace} {fuel:Nat}
  (ht:P.underlying t=some (.slice e)) (he:P.underlying e=some (.int k)) (hc:P.cellsOf e=1) (hf:DataW.trod enc P W base sp held fuel t cs=some x):
  ∃v,cs=[v]/\∃zs:List Int,(∀n∈zs,(Lit.int k n).wf=true)/\aG W.heap v (zs.map (Value.int k)):=by
 rcases open_ints ht he hc hf with⟨En,-⟩|⟨a,len,cap,zs,rfl,-,hl,-,hz,-,hcell,hwf⟩
 ·subst En;exact⟨_,rfl,[],by simp,.inl ⟨_,_,rfl,rfl⟩⟩
 ·refine⟨_,rfl,?_⟩;have hle:len<=zs.length:=by rw[hz];split<;>omega
  refine⟨zs.take len,fun n hn=>hwf n (List.mem_of_mem_take hn),?_⟩
  by_cases h0:len=0
  ·subst h0;exact .inl ⟨_,_,rfl,by simp⟩
  ·obtain⟨hs,c,T,fr,hb,-⟩:=cellAt (hcell 0 (by omega));obtain⟨ab,ao,as⟩:=a;have bO:as=none:=by unfold Addr.add at hs;split at hs<;>simp_all
   subst bO;have jz:W.heap[ab]?=some (.cells c T fr):=hb;have ek:∀i,i<len->c[ao+i]?=some (.int k (zs.getD i 0)):=by
    intro i hi;have hc:=hcell i (by omega);rw[dR _ rfl]at hc;obtain⟨-,c',T',fr',hb2,hg⟩:=cellAt hc;have hb2:W.heap[ab]?=some (.cells c' T' fr'):=hb2;rw[jz]at hb2
    cases hb2
    exact hg
   have vm:ao+len<=c.size:=by
    have:=ek (len -1) (by omega);have:=(Array.getElem?_eq_some_iff.1 this).1;omega
   have hL:((zs.take len).map (Value.int k)).length=len:=by simp;omega
   have:=aG.at_ (H:=W.heap) (b:=ab) (o:=ao) (c:=cap) (l:=(zs.take len).map (Value.int k)) (by omega) jz (by omega) (by
    rw[hL];apply List.ext_getElem?;intro i;rw[List.getElem?_take,List.getElem?_drop,List.getElem?_map,List.getElem?_take]
    split
    ·rename_i hi;rw[Array.getElem?_toList,ek i hi];have:i<zs.length:=by omega
     simp[List.getD_eq_getElem?_getD,this]
    ·rfl)
   rwa [hL]at this
theorem ri {W:World} {r:Reach} {b0 base:Nat} {sp:Nat->Bool} {held:Bool} {t e:TypeId} {k:IntKind} {v:Value} {d:DataW H} {ps:List MemPlace}
  (ht:P.underlying t=some (.slice e)) (he:P.underlying e=some (.int k)) (hc:P.cellsOf e=1) (hval:Value.okWide P W r b0 t v) (hd:DataW.Trod enc P W base sp held t v d ps):
  ∃zs:List Int,(∀n∈zs,(Lit.int k n).wf=true)/\aG W.heap v (zs.map (Value.int k)):=by
 obtain⟨a0,len,cap,rfl⟩:=okWide_slice ht hval;obtain⟨fuel,hf⟩:=hd;obtain⟨v,h1,h2⟩:=rh ht he hc hf;simp[Value.cells]at h1;subst h1;exact h2
theorem rj {H:Hp} {v:Value} {zs:List Int} (hw:∀n∈zs,(Lit.int .u8 n).wf=true) (hs:aG H v (zs.map (Value.int .u8))):∃l:List UInt8,aG H v (w8 l):=by
 refine⟨zs.map fun n=>UInt8.ofNat n.toNat,?_⟩;have:w8 (zs.map fun n=>UInt8.ofNat n.toNat)=zs.map (Value.int .u8):=by
  unfold w8;rw[List.map_map];apply List.map_congr_left;intro n hn;have h:=hw n hn;simp only[Lit.wf,Bool.and_eq_true,decide_eq_true_eq]at h;obtain⟨h1,h2⟩:=h;have h1:(0:Int)<=n:=h1;have h2:n<=255:=h2;simp only[Function.comp_apply,Value.int.injEq,true_and,UInt8.toNat_ofNat'];omega
 rw[this];exact hs
theorem qG {W:World} {r:Reach} {b0 base:Nat} {sp:Nat->Bool} {held:Bool} {t e:TypeId} {v:Value} {d:DataW H} {ps:List MemPlace}
  (ht:P.underlying t=some (.slice e)) (he:P.underlying e=some (.int .u8)) (hc:P.cellsOf e=1) (hval:Value.okWide P W r b0 t v) (hd:DataW.Trod enc P W base sp held t v d ps):
  ∃l:List UInt8,aG W.heap v (w8 l):=by
 obtain⟨zs,hw,hs⟩:=ri ht he hc hval hd;exact rj hw hs
end
end Go.Mg
namespace Go.Mg
open Go Go.ChangeShapes Go.WideShapes Go.RowKit
def WdR (m:Nat) (H:Hp) (v:Value) (ws:List (List UInt8)):Prop:=
 ∃a c,v=.slice a ws.length c/\ws.length<=c/\∀i,i<ws.length->(ws.getD i []).length=m/\∃b o,a=some ⟨b,o,none⟩/\b<H.size/\Mg.aR H ⟨b,o+i*m,none⟩ m=some (w8 (ws.getD i [])).toArray
theorem WdR.aj {m:Nat} {H H':Hp} {v:Value} {ws:List (List UInt8)} (h:WdR m H v ws) (hk:af (fun _=>False) H H'):WdR m H' v ws:=by
 obtain⟨a,c,h1,h2,h3⟩:=h;refine⟨a,c,h1,h2,fun i hi=>?_⟩;obtain⟨h4,b,o,h5,h6,h7⟩:=h3 i hi;exact⟨h4,b,o,h5,Nat.lt_of_lt_of_le h6 hk.size,by rw[hk.aR (p:=⟨b,o+i*m,none⟩) h6 (by simp)];exact h7⟩
section
variable {H:Type} {enc:TypeId×Value->H} {P:Program}
end
end Go.Mg
namespace Go.Mg
open Go Go.ChangeShapes Go.WideShapes Go.RowKit
section
variable {H:Type} {OM:TypeId×Value->H} {P:Program}
end
end Go.Mg
