/- Lemmas of ours. No conditions. -/
import Derived.Test.YtkfikjdbdfekfabDoorMgBytes
import Derived.ProofKit
import Derived.LaidMore
import Derived.OpenShut
import Derived.Stop.Joined
namespace Go.Mg
open Go Go.ChangeShapes Go.WideShapes Go.RowKit
section
variable {H:Type} {enc:TypeId×Value->H} {P:Program}
theorem cH {W W':World} (hl:laidOutB P=true) (hb:Below W.heap.size W W') {sp:Nat->Bool}:
  ∀{ts:List TypeId} {vs:List Value} {ds:List (DataW H)} {ps:List MemPlace},ts.all (fun t=>P.readableRec t&&decide (t<P.types.size))=true→
   DataW.TrodAll enc P W 0 (fun _=>true) true ts vs ds ps->(∀p∈ps,p.block<W.heap.size)->(∀p∈ps,sp p.block=true)->DataW.TrodAll enc P W' 0 sp true ts vs ds ps
 |[],_,_,_,_,h,_,_=>by
  obtain⟨rfl,rfl,rfl⟩:=trodAll_nil h;exact trodAll_mk0
 |t::ts,_,_,_,hp,h,hlt,hsp=>by
  obtain⟨v,x5,d,x6,a,b,rfl,rfl,rfl,h1,h2⟩:=trodAll_cons h;simp only[List.all_cons,Bool.and_eq_true,decide_eq_true_eq]at hp;have i1:=WideElems.Trod_stays (sp':=sp) hl hp.1.1 hp.1.2 h1 (fun x hx=>hb.same (hlt x (by simp[hx]))) (fun x hx=>hsp x (by simp[hx]));have i2:=cH hl hb (sp:=sp) (by simpa using hp.2) h2 (fun p hp=>hlt p (by simp[hp])) (fun p hp=>hsp p (by simp[hp]));exact⟨a,b,i1,i2,rfl⟩
theorem mR {f:Func} {s:ChangeSpec} {apart fresh handsOn again:Bool} {W W':World} {args:Array Value} {ds gs:List (DataW H)} {before:List MemPlace} {t:TypeId}
  (hW:DataW.Whole enc P f.params.toList s.vars apart W args.toList ds gs before) (hv:s.vars=[]) (hfn:(s.fn H (ds++gs))={results:=[.lit (.bool true)],args:=ds})
  (hb:Below W.heap.size W W') (hr:f.resultTypes=#[t]) (ht:P.underlying t=some .bool) (hl:laidOutB P=true) (hp:f.params.toList.all (fun t=>P.readableRec t&&decide (t<P.types.size))=true):
  s.post enc P f apart fresh handsOn again W args (.bool true) W':=by
 have hlt:=hW.lt;have uW:=hW;obtain⟨p,q,hA,hV,rfl,hz,hn⟩:=uW;have vK:=hV;rw[hv]at vK;obtain⟨rfl,rfl⟩:=trodVars_none vK;simp only[List.append_nil]at hlt hz hn;have hres:∀(b:Nat) (sp:Nat->Bool) (hd:Bool),DataW.TrodAll enc P W' b sp hd f.resultTypes.toList ((Value.bool true).resultList f.resultTypes.size) (s.fn H (ds++[])).results []:=fun b sp hd=>by
  rw[hfn,hr];exact trodAll_mk1 (shut_bool ht true)
 have hargs:∀sp:Nat->Bool,(∀x∈p,sp x.block=true)->DataW.TrodAll enc P W' 0 sp true f.params.toList args.toList (s.fn H (ds++[])).args p:=fun sp hsp=>by
  rw[hfn];exact cH hl hb hp hA hlt hsp
 have pg:∀sp:Nat->Bool,DataW.TrodVars enc P W' sp s.vars (s.fn H (ds++[])).vars []:=fun sp=>by
  rw[hfn,hv];rfl
 refine⟨ds,[],_,[],p,[],hW,hres _ _ _,hargs _ (fun x hx=>by simpa using hlt x hx),pg _,hb.frame _,fun _=>?_⟩;refine⟨ok_one hr rfl (okWide_bool_mk ht true),_,_,([]++p)++[],⟨[]++p,[],trodAll_append (hargs _ (fun _ _=>rfl)) (hres _ _ _),pg _,rfl,?_,?_⟩,?_⟩
 ·intro b off hx;rw[hb.frozen (p:=⟨b,off,none⟩) (hlt (.cell b off) (by simpa using hx))];exact hz b off (by simpa using hx)
 ·intro ha;simpa using hn ha
 ·intro x hx _;simpa using hx
theorem fF {W W':World} (hk:ae (fun _=>False) W.heap W'.heap) (hs:aI W W'):Below W.heap.size W W':=
 ⟨hs.os,hs.tape,hs.output,hk.size,fun k hlt=>hk.at_ k hlt (fun h=>h)⟩
theorem jF {f:FuncId} {fn:Func} {s:ChangeSpec} {apart fresh handsOn again:Bool} {W:World} {args:Array Value} {ds gs:List (DataW H)} {before:List MemPlace} {t:TypeId}
  (hW:DataW.Whole enc P fn.params.toList s.vars apart W args.toList ds gs before) (hv:s.vars=[]) (hfn:(s.fn H (ds++gs))={results:=[.lit (.bool true)],args:=ds})
  (hr:fn.resultTypes=#[t]) (ht:P.underlying t=some .bool) (hl:laidOutB P=true) (hp:fn.params.toList.all (fun t=>P.readableRec t&&decide (t<P.types.size))=true)
  (h:ai P f args W.heap fun v H'=>v=.bool true/\ae (fun _=>False) W.heap H'):
  Calls P f args W fun e W'=>∃v,e=.returned v/\s.post enc P fn apart fresh handsOn again W args v W':=by
 refine(h W rfl).mono ?_;rintro e W' ⟨v,rfl,⟨rfl,hk⟩,hs⟩;exact⟨_,rfl,mR hW hv hfn (fF hk hs) hr ht hl hp⟩
end
end Go.Mg
