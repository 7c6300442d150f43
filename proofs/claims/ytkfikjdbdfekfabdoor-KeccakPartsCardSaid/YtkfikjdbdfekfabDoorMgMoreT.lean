/- Lemmas of ours. No conditions. -/
import Derived.Test.YtkfikjdbdfekfabDoorMgMoreS
import Derived.Laws.BytesString
namespace Go.Mg
open Go Go.RowKit
section
variable {P:Program} {o:Oper} {w:World} {ρ:Operand->Value} {tr:Operand->Option A} {r:A->Value}
theorem eC {x:Option Operand} {y:Option A} (h:rQ tr x=some y) (htr:∀y z,tr y=some z->ρ y=r z):x.map ρ=y.map r:=by
 cases x with
 |none=>cases h;rfl
 |some x=>obtain⟨z,hz,rfl⟩:=Option.map_eq_some_iff.1 h;simp[htr _ _ hz]
theorem aL {v:Value} (hv:isInt v) {y:Nat} {c:BoundsCode} (h0:0<=v.i) (h1:v.i<=y):(Instr.sliceBound v y c).run P w=.ok v.i.toNat w:=by
 obtain⟨k,hk⟩:=ak hv;generalize hn:v.i=n at*;rw[hk];simp only[Instr.sliceBound,asIntOf,Sem.run_bind,Sem.run_pure,Result.andThen,h0,h1,and_self,if_true]
theorem cJ {b:Bool} {len cap:Nat} {lo hi:Option A} (hl:lM r lo) (hh:lM r hi) (h:lN len cap (oi r lo) (oi r hi)):
  (Instr.sliceBounds b len cap (lo.map r) (hi.map r) none).run P w=.ok (dM (oi r lo),jO len (oi r hi),cap) w:=by
 cases lo with
 |none=>cases hi with
  |none=>rfl
  |some y=>
   obtain⟨h1,h2⟩:=h;simp only[Instr.sliceBounds,Sem.run_bind,Sem.run_pure,Result.andThen,Option.map_some,Option.map_none,aL hh h1 h2]
   rfl
 |some x=>cases hi with
  |none=>
   obtain⟨h1,h2⟩:=h;simp only[Instr.sliceBounds,Sem.run_bind,Sem.run_pure,Result.andThen,Option.map_some,Option.map_none,aL hl h1 h2]
   rfl
  |some y=>
   obtain⟨h1,h2,h3⟩:=h;simp only[Instr.sliceBounds,Sem.run_bind,Sem.run_pure,Result.andThen,Option.map_some];have h1:0<=(r x).i:=h1;have h2:(r x).i<=(r y).i:=h2;rw[aL hh (by omega) h3];simp only;rw[aL hl h1 (by omega)]
   rfl
theorem ig {b:Bool} {len cap:Nat} {lo:Option A} {hi mx:A} (hl:lM r lo) (hh:isInt (r hi)) (hm:isInt (r mx)) (h1:0<=(oi r lo).getD 0) (h2:(oi r lo).getD 0<=(r hi).i) (h3:(r hi).i<=(r mx).i) (h4:(r mx).i<=cap):
  (Instr.sliceBounds b len cap (lo.map r) (some (r hi)) (some (r mx))).run P w=.ok (dM (oi r lo),(r hi).i.toNat,(r mx).i.toNat) w:=by
 cases lo with
 |none=>
  have sQ:(0:Int)<=(r hi).i:=h2;simp only[Instr.sliceBounds,Sem.run_bind,Sem.run_pure,Result.andThen,Option.map_none];rw[aL hm (by omega) h4];simp only;rw[aL hh sQ (by omega)]
  rfl
 |some x=>
  have sQ:0<=(r x).i:=h1;have u1:(r x).i<=(r hi).i:=h2;simp only[Instr.sliceBounds,Sem.run_bind,Sem.run_pure,Result.andThen,Option.map_some];rw[aL hm (by omega) h4];simp only;rw[aL hh (by omega) (by omega)];simp only;rw[aL hl sQ (by omega)]
  rfl
theorem ij:∀(l:List Value),(∀x∈l,cb .u8 x)->(l.map Value.i).map (Value.int .u8)=l
 |[],_=>rfl
 |x::l,h=>by
  have e:=an (h x (by simp));simp only[List.map_cons];rw[ij l (fun y hy=>h y (by simp[hy])),<-e]
theorem ik:∀(l:List Value) (q:ByteArray),(l.map Value.i).foldl (fun q n=>q.push (UInt8.ofNat n.toNat)) q=⟨q.data++(l.map fun v=>UInt8.ofNat v.i.toNat).toArray⟩
 |[],q=>by simp
 |x::l,q=>by
  simp only[List.map_cons,List.foldl_cons];rw[ik l];simp[ByteArray.push]
theorem nr {s t e:TypeId} {v:Value} (hs:P.underlying s=some (.slice e)) (ht:P.underlying t=some .string) (he:P.underlying e=some (.int .u8)) (h:jP w.heap v):
  (convert s t v).run P w=.ok (.string (toBA ((aB w.heap v).getD #[]))) w:=by
 obtain⟨xs,hx,hb⟩:=h;rw[hx,Option.getD_some]
 cases v with
 |slice a n c=>
  rw[run_convert_bytes_string w s t e a n c hs he ht]
  cases a with
  |none=>cases hx;simp[Conv.bytesToString,Sem.run_pure,toBA];rfl
  |some p=>
   have hl:(loadCells p n).run P w=.ok xs w:=by
    simp only[aB]at hx
    split at hx
    ·rename_i h0;subst h0;cases hx;rfl
    ·exact dW hx
   have hz:=ij xs.toList hb;have py:xs=((xs.toList.map Value.i).map (Value.int .u8)).toArray:=by rw[hz]
   rw[py]at hl;rw[run_bytesToString w p n c _ hl,ik]
   congr 2
   apply ByteArray.ext;simp only[toBA];apply Array.ext';simp
 |_=>cases hx
theorem fM:∀(xs:List Value) (j:Nat) (C:Array Value) (off:Nat),off+j+xs.length<=C.size->(xs.zipIdx j).foldl (fun cs (x:Value×Nat)=>cs.setIfInBounds (off+x.2) x.1) C=gg C (off+j) xs
 |[],j,C,off,_=>by simp[jM]
 |x::xs,j,C,off,h=>by
  simp only[List.length_cons]at h;simp only[List.zipIdx_cons,List.foldl_cons];rw[fM xs (j+1) _ off (by simp;omega),<-hU (x:=x) (by omega)]
  rfl
theorem cY {place:Nat->Option (Nat×Nat)}:∀{parts:List (Nat×Operand)} {ps:List (Nat×Nat×A)} (C:Array Value),bk tr place parts=some ps->(∀y z,tr y=some z->ρ y=r z)->bN r C.size ps→
  Instr.fill place C (parts.map fun p=>(p.1,ρ p.2))=some (bW r C ps)
 |[],ps,C,h,_,_=>by cases h;rfl
 |(i,x)::l,ps,C,h,htr,hok=>by
  simp only[bk]at h;obtain⟨p,hp,h⟩:=Option.bind_eq_some_iff.1 h;obtain⟨a,ha,h⟩:=Option.bind_eq_some_iff.1 h;obtain⟨xF,lH,rfl⟩:=Option.map_eq_some_iff.1 h;obtain⟨h1,h2,h3⟩:=hok;obtain⟨off,size⟩:=p;simp only at h1 h2 h3;have hlen:off+(r a).cells.toList.length<=C.size:=by simp[h1];exact h2
  have e:(r a).cells.zipIdx.foldl (fun cs (x:Value×Nat)=>cs.setIfInBounds (off+x.2) x.1) C=gg C off (r a).cells.toList:=by
   rw[<-Array.foldl_toList,Array.toList_zipIdx];exact fM _ 0 C off (by omega)
  have ih:=cY (place:=place) (gg C off (r a).cells.toList) lH htr (by rw[hP hlen];exact h3);have hc:((decide ((r a).cells.size≠size))||decide (off+(r a).cells.size>C.size))=false:=by
   simp[h1];omega
  simp only[List.map_cons,Instr.fill,hp,htr _ _ ha,hc,Bool.false_eq_true,if_false,bW];rw[<-ih,<-e]
theorem a7 {b:Builtin} {args:Array Operand} {ts:Array TypeId} (ho:o.op=.call {callee:=.builtin b,args:=args,argTypes:=ts}) {s:Sem Value} {v:Value}
  (hb:∀cs vs,builtin b ts o.type cs vs=(do pure (.value (←(match b with|.len=>Builtin.len_ ts o.type vs|.cap=>Builtin.cap_ ts o.type vs|.min=>Builtin.min_ ts o.type vs|.max=>Builtin.max_ ts o.type vs|_=>s)))))
  (h:(match b with|.len=>Builtin.len_ ts o.type (args.map ρ)|.cap=>Builtin.cap_ ts o.type (args.map ρ)|.min=>Builtin.min_ ts o.type (args.map ρ)|.max=>Builtin.max_ ts o.type (args.map ρ)|_=>s).run P w=.ok v w):
  (execOp ρ o).run P w=.ok (.value v) w:=by
 simp only[execOp,ho,resolve,Sem.run_bind,Sem.run_pure,Result.andThen,invoke];rw[hb];exact aw h
theorem fN {l:List Operand} {as:List A} (h:h9 tr l=some as) (htr:∀y z,tr y=some z->ρ y=r z):l.map ρ=as.map r:=by
 induction l generalizing as with
 |nil=>cases h;rfl
 |cons x l ih=>
  simp only[h9]at h;obtain⟨a,ha,h⟩:=Option.bind_eq_some_iff.1 h;obtain⟨b,hb,rfl⟩:=Option.map_eq_some_iff.1 h;simp[htr _ _ ha,ih hb]
theorem b5 (e:Bool) {t:TypeId} (ht:P.underlying t=some .string) (n:Nat) (v:Value):(Instr.checkKey e (n+1) t v).run P w=.ok () w:=by
 unfold Instr.checkKey;simp only[Sem.run_bind,run_underlying ht,Result.andThen]
 rfl
theorem br (k:ByteArray):∀(es:List MapEntry) (i:Nat),(∀e∈es,cR e.key)->∃x,Instr.findNow .string (.string k) es i=some x/\x.map (·.2)=bZ k es
 |[],i,_=>⟨none,rfl,rfl⟩
 |e::es,i,h=>by
  have hk:=ay (h e (by simp));unfold Instr.findNow;rw[hk];simp only[Instr.sameNow]
  by_cases hb:(k==e.key.s)=true
  ·rw[hb];refine⟨_,rfl,?_⟩;simp[bZ,List.find?,hb]
  ·have lK:(k==e.key.s)=false:=by simpa using hb
   rw[lK];obtain⟨x,h1,h2⟩:=br k es (i+1) (fun e he=>h e (by simp[he]));refine⟨x,h1,?_⟩;rw[h2];simp[bZ,List.find?,lK]
theorem ch (kk:IntKind) (n:Int):∀(es:List MapEntry) (i:Nat),(∀e∈es,cb kk e.key)->∃x,Instr.findNow (.int kk) (.int kk n) es i=some x/\x.map (·.2)=fL n es/\x.map (·.1)=(es.findIdx? fun e=>n==e.key.i).map (·+i)
 |[],i,_=>⟨none,rfl,rfl,rfl⟩
 |e::es,i,h=>by
  have hk:=an (h e (by simp));unfold Instr.findNow;rw[hk];simp only[Instr.sameNow,if_true]
  by_cases hb:(n==e.key.i)=true
  ·rw[hb];refine⟨_,rfl,?_,?_⟩
   ·simp[fL,List.find?,hb]
   ·simp[List.findIdx?_cons,hb]
  ·have lK:(n==e.key.i)=false:=by simpa using hb
   rw[lK];obtain⟨x,h1,h2,h3⟩:=ch kk n es (i+1) (fun e he=>h e (by simp[he]));refine⟨x,h1,?_,?_⟩
   ·rw[h2];simp[fL,List.find?,lK]
   ·rw[h3,List.findIdx?_cons,lK]
    cases es.findIdx? (fun e=>n==e.key.i)with
    |none=>rfl
    |some j=>simp;omega
theorem cZ (e:Bool) {kk:IntKind} {t:TypeId} (ht:P.underlying t=some (.int kk)) (n:Nat) (v:Value):(Instr.checkKey e (n+1) t v).run P w=.ok () w:=by
 unfold Instr.checkKey;simp only[Sem.run_bind,run_underlying ht,Result.andThen]
 rfl
theorem eD {H:Hp} {v:Value} {es:List MapEntry} (h:aU H v=some es):(v=.map none/\es=[])\/∃b a c,v=.map (some b)/\H[b]?=some (.map a c)/\es=a.toList:=by
 cases v with
 |map o=>
  cases o with
  |none=>left;simp[aU]at h;exact⟨rfl,h⟩
  |some b=>
   right
   simp only[aU]at h
   cases hb:H[b]? with
   |none=>rw[hb]at h;cases h
   |some o=>
    rw[hb]at h
    cases o with
    |map a c=>cases h;exact⟨b,a,c,rfl,hb,rfl⟩
    |_=>cases h
 |_=>simp[aU]at h
theorem iW {t k e:TypeId} {z:Value} {m:Value} {kv:Value} {es:List MapEntry} {ok:Bool} (ht:P.underlying t=some (.map k e)) (hk:P.underlying k=some .string) (hz:(P.info? e).bind (·.zero)=some z)
  (hm:aU w.heap m=some es) (hs:∀e∈es,cR e.key) (hkv:cR kv):
  (Instr.lookup t m kv ok).run P w=.ok (if ok=true then .tuple #[(bZ kv.s es).getD z,.bool (bZ kv.s es).isSome]else(bZ kv.s es).getD z) w:=by
 obtain⟨i,hi,hz⟩:=Option.bind_eq_some_iff.1 hz;have hzero:(zeroValue e).run P w=.ok z w:=by simp[zeroValue,typeInfo,program,Sem.run,hi,hz,Sem.run_bind,Result.andThen]
 have hkv:=ay hkv;generalize kv.s=q at*;subst hkv;obtain⟨x,h1,h2⟩:=br q es 0 hs;have nt:∀e:Bool,(Instr.checkKey e 10000 k (.string q)).run P w=.ok () w:=fun e=>b5 e hk 9999 _;have nu:∀l:List MapEntry,l=es->(Instr.findKey k (.string q) l).run P w=.ok x w:=fun l hl=>by
  subst hl;simp only[Instr.findKey,Sem.run_bind,run_underlying hk,Result.andThen,h1,Sem.run_pure]
 have e0:bZ q es=x.map (·.2):=h2.symm;unfold Instr.lookup;rw[e0];rcases eD hm with⟨rfl,rfl⟩|⟨b,a,c,rfl,hb,rfl⟩
 ·simp only[Sem.run_bind,run_underlying ht,Result.andThen,Sem.run_pure,nt,nu [] rfl]
  cases x with
  |none=>simp only[hzero,Sem.run_bind,Result.andThen,Sem.run_pure];cases ok<;>rfl
  |some p=>obtain⟨i,v⟩:=p;simp only[Sem.run_pure,Sem.run_bind,Result.andThen];cases ok<;>rfl
 ·have hg:(getObj b).run P w=.ok (.map a c) w:=by simp[getObj,Sem.run,hb]
  simp only[Sem.run_bind,run_underlying ht,Result.andThen,hg,Sem.run_pure,nt,nu a.toList rfl]
  cases x with
  |none=>simp only[hzero,Sem.run_bind,Result.andThen,Sem.run_pure];cases ok<;>rfl
  |some p=>obtain⟨i,v⟩:=p;simp only[Sem.run_pure,Sem.run_bind,Result.andThen];cases ok<;>rfl
theorem il {t k e:TypeId} {kk:IntKind} {z:Value} {m:Value} {kv:Value} {es:List MapEntry} (ht:P.underlying t=some (.map k e)) (hk:P.underlying k=some (.int kk)) (hz:(P.info? e).bind (·.zero)=some z)
  (hm:aU w.heap m=some es) (hs:∀e∈es,cb kk e.key) (hkv:cb kk kv):
  (Instr.lookup t m kv false).run P w=.ok ((fL kv.i es).getD z) w:=by
 obtain⟨i,hi,hz⟩:=Option.bind_eq_some_iff.1 hz;have hzero:(zeroValue e).run P w=.ok z w:=by simp[zeroValue,typeInfo,program,Sem.run,hi,hz,Sem.run_bind,Result.andThen]
 have hkv:=an hkv;generalize kv.i=q at*;subst hkv;obtain⟨x,h1,h2,-⟩:=ch kk q es 0 hs;have nt:∀e:Bool,(Instr.checkKey e 10000 k (.int kk q)).run P w=.ok () w:=fun e=>cZ e hk 9999 _;have nu:∀l:List MapEntry,l=es->(Instr.findKey k (.int kk q) l).run P w=.ok x w:=fun l hl=>by
  subst hl;simp only[Instr.findKey,Sem.run_bind,run_underlying hk,Result.andThen,h1,Sem.run_pure]
 have e0:fL q es=x.map (·.2):=h2.symm;unfold Instr.lookup;rw[e0];rcases eD hm with⟨rfl,rfl⟩|⟨b,a,c,rfl,hb,rfl⟩
 ·simp only[Sem.run_bind,run_underlying ht,Result.andThen,Sem.run_pure,nt,nu [] rfl]
  cases x with
  |none=>simp only[hzero,Sem.run_bind,Result.andThen,Sem.run_pure];rfl
  |some p=>obtain⟨i,v⟩:=p;simp only[Sem.run_pure,Sem.run_bind,Result.andThen];rfl
 ·have hg:(getObj b).run P w=.ok (.map a c) w:=by simp[getObj,Sem.run,hb]
  simp only[Sem.run_bind,run_underlying ht,Result.andThen,hg,Sem.run_pure,nt,nu a.toList rfl]
  cases x with
  |none=>simp only[hzero,Sem.run_bind,Result.andThen,Sem.run_pure];rfl
  |some p=>obtain⟨i,v⟩:=p;simp only[Sem.run_pure,Sem.run_bind,Result.andThen];rfl
theorem lP {l:List Operand} {m:List A} (htr:∀y z,tr y=some z->ρ y=r z) (h:h9 tr l=some m):l.map ρ=m.map r:=by
 induction l generalizing m with
 |nil=>cases h;rfl
 |cons x l ih=>
  simp only[h9]at h;obtain⟨a,ha,h⟩:=Option.bind_eq_some_iff.1 h;obtain⟨b,hb,rfl⟩:=Option.map_eq_some_iff.1 h;simp[htr _ _ ha,ih hb]
theorem jR (w:World):∀(m:List A),(∀b∈m,isInt (r b))->∀v,isInt v->((m.map r).foldlM Builtin.max2 v).run P w=.ok (.int (kindOf v) (qL v.i (m.map fun b=>(r b).i))) w
 |[],_,v,hv=>by
  obtain⟨k,hk⟩:=ak hv;generalize v.i=i at*;subst hk;simp[qL,kindOf]
 |b::m,h,v,hv=>by
  obtain⟨k,hk⟩:=ak hv;obtain⟨k',pz⟩:=ak (h b (by simp));have e:(Builtin.max2 v (r b)).run P w=.ok (.int k (if(r b).i>v.i then(r b).i else v.i)) w:=by
   generalize v.i=i at*;generalize(r b).i=j at*;rw[hk,pz];simp[Builtin.max2]
  simp only[List.map_cons,List.foldlM_cons];rw[az e,jR w m (fun c hc=>h c (by simp[hc])) (.int k (if(r b).i>v.i then(r b).i else v.i)) trivial];have e2:kindOf v=k:=by rw[hk];rfl
  rw[e2];rfl
theorem lQ {q:PM} (hq:pm P tr o=some q) (htr:∀y z,tr y=some z->ρ y=r z) (hc:∀v,ρ (.const v)=v) (hpre:q.pre r w.heap):
  (execOp ρ o).run P w=.ok (.value (q.val r w.heap)) w:=by
 unfold pm at hq
 split at hq
 ·-- load
  rename_i t x hop
  split at hq
  case isFalse=>cases hq
  rename_i nv;obtain⟨a,ha,rfl⟩:=Option.map_eq_some_iff.1 hq;obtain⟨h1,h2⟩:=bq nv w;simp only[execOp,hop,htr _ _ ha];refine aw ?_;simp only[PM.pre]at hpre;simp only[PM.val];obtain⟨xs,py⟩:=Option.isSome_iff_exists.1 hpre;rw[py];unfold cS at py
  split at py
  case h_2=>cases py
  rename_i p hp;rw[hp];simp only[Instr.loadAt,Instr.sureAddr,Sem.run_bind,Sem.run_pure,Result.andThen,loadVar,h1,if_true,aj P t h2,dW py,Option.getD_some]
 ·rename_i t x y u hop;exact ev (op:=.eql) rfl hop hq htr hc hpre
 ·rename_i t x y u hop;exact ev (op:=.neq) rfl hop hq htr hc hpre
 ·-- slice
  rename_i t x lo hi hop;obtain⟨a,ha,hq⟩:=Option.bind_eq_some_iff.1 hq;obtain⟨l,hl,hq⟩:=Option.bind_eq_some_iff.1 hq;obtain⟨h,hh,hq⟩:=Option.bind_eq_some_iff.1 hq;have el:=eC hl htr;have eh:=eC hh htr
  split at hq
  ·rename_i n e hu
   split at hq
   case isFalse=>cases hq
   rename_i he
   cases hq
   obtain⟨h1,h2,h3,h4⟩:=hpre;obtain⟨p,hp⟩:=ek h1;simp only[execOp,hop,htr _ _ ha,el,eh,PM.val];refine aw ?_;rw[hp];simp only[Instr.sliceAt,Sem.run_bind,run_underlying hu,Result.andThen,Instr.sureAddr,Sem.run_pure,Option.map_none];rw[cJ h2 h3 h4];simp only[aj P e he,pt]
  ·rename_i e hu
   split at hq
   case isFalse=>cases hq
   rename_i he
   cases hq
   obtain⟨h1,h2,h3,h4⟩:=hpre;have hp:=aV h1;simp only[execOp,hop,htr _ _ ha,el,eh,PM.val];refine aw ?_;generalize r a=v at*;generalize bC v=ad at*;generalize av v=ln at*;generalize bp v=cp at*;subst hp;simp only[Instr.sliceAt,Instr.slice,Sem.run_bind,run_underlying hu,Result.andThen,Sem.run_pure,Option.map_none];rw[cJ h2 h3 h4];simp only[aj P e he,fK]
  ·rename_i hu
   cases hq
   obtain⟨h1,h2,h3,h4⟩:=hpre;have hp:=ay h1;simp only[execOp,hop,htr _ _ ha,el,eh,PM.val];refine aw ?_;generalize r a=v at*;generalize v.s=st at*;subst hp;simp only[Instr.sliceAt,Instr.slice,Sem.run_bind,run_underlying hu,Result.andThen,Sem.run_pure,Option.map_none,Option.isSome_none,Bool.false_eq_true,if_false];rw[cJ h2 h3 h4]
  ·cases hq
 ·-- len
  rename_i args ts hop
  split at hq
  case h_2=>cases hq
  rename_i x t ha ht;obtain⟨a,hx,hq⟩:=Option.bind_eq_some_iff.1 hq;have e1:args=#[x]:=by cases args;simpa using ha
  have e2:ts=#[t]:=by cases ts;simpa using ht
  subst e1;subst e2;refine a7 (s:=pure undef) hop (fun _ _=>rfl) ?_;simp only[List.map_toArray,List.map_cons,List.map_nil,htr _ _ hx]
  split at hq<;>cases hq
  ·rename_i hu;have e:=ay (v:=r a) hpre;simp only[PM.val];generalize r a=v at*;generalize v.s=q at*;subst e;simp[Builtin.len_,Sem.run_bind,run_underlying hu,Result.andThen,goInt]
  ·rename_i _ hu;have e:=aV (v:=r a) hpre;simp only[PM.val];generalize r a=v at*;generalize bC v=ad at*;generalize av v=ln at*;generalize bp v=cp at*;subst e;simp[Builtin.len_,Sem.run_bind,run_underlying hu,Result.andThen,goInt]
  ·rename_i _ _ hu;simp only[PM.val];simp[Builtin.len_,Sem.run_bind,run_underlying hu,Result.andThen,goInt]
 ·-- cap
  rename_i args ts hop
  split at hq
  case h_2=>cases hq
  rename_i x t ha ht;obtain⟨a,hx,hq⟩:=Option.bind_eq_some_iff.1 hq;have e1:args=#[x]:=by cases args;simpa using ha
  have e2:ts=#[t]:=by cases ts;simpa using ht
  subst e1;subst e2;refine a7 (s:=pure undef) hop (fun _ _=>rfl) ?_;simp only[List.map_toArray,List.map_cons,List.map_nil,htr _ _ hx]
  split at hq<;>cases hq
  rename_i _ hu;have e:=aV (v:=r a) hpre;simp only[PM.val];generalize r a=v at*;generalize bC v=ad at*;generalize av v=ln at*;generalize bp v=cp at*;subst e;simp[Builtin.cap_,Sem.run_bind,run_underlying hu,Result.andThen,goInt]
 ·-- min
  rename_i args ts hop
  split at hq
  case h_2=>cases hq
  rename_i x y ha;obtain⟨a,hx,hq⟩:=Option.bind_eq_some_iff.1 hq;obtain⟨b,hy,hq⟩:=Option.bind_eq_some_iff.1 hq
  cases hq
  have e1:args=#[x,y]:=by cases args;simpa using ha
  subst e1;obtain⟨h1,h2⟩:=hpre;refine a7 (s:=pure undef) hop (fun _ _=>rfl) ?_;simp only[List.map_toArray,List.map_cons,List.map_nil,htr _ _ hx,htr _ _ hy,PM.val];obtain⟨k,hk⟩:=ak h1;obtain⟨k',pz⟩:=ak h2;generalize(r a).i=m at*;generalize(r b).i=n at*;rw[hk,pz];simp[Builtin.min_,Builtin.min2,kindOf]
 ·-- max
  rename_i args ts hop
  split at hq
  case h_3=>cases hq
  case h_2=>
   rename_i x y z l ha;obtain⟨a,hx,hq⟩:=Option.bind_eq_some_iff.1 hq;obtain⟨m,hm,rfl⟩:=Option.map_eq_some_iff.1 hq;have e1:args=(x::y::z::l).toArray:=by cases args;simpa using ha
   subst e1;obtain⟨h1,h2⟩:=hpre;refine a7 (s:=pure undef) hop (fun _ _=>rfl) ?_;have hl:=lP htr hm;simp only[List.map_toArray,List.map_cons,htr _ _ hx,PM.val]at hl⊢;simp only[Builtin.max_];rw[hl];exact jR (r:=r) w m h2 (r a) h1
  rename_i x y ha;obtain⟨a,hx,hq⟩:=Option.bind_eq_some_iff.1 hq;obtain⟨b,hy,hq⟩:=Option.bind_eq_some_iff.1 hq
  cases hq
  have e1:args=#[x,y]:=by cases args;simpa using ha
  subst e1;obtain⟨h1,h2⟩:=hpre;refine a7 (s:=pure undef) hop (fun _ _=>rfl) ?_;simp only[List.map_toArray,List.map_cons,List.map_nil,htr _ _ hx,htr _ _ hy,PM.val];obtain⟨k,hk⟩:=ak h1;obtain⟨k',pz⟩:=ak h2;generalize(r a).i=m at*;generalize(r b).i=n at*;rw[hk,pz];simp[Builtin.max_,Builtin.max2,kindOf]
 ·-- index
  rename_i t x i hop;obtain⟨a,ha,hq⟩:=Option.bind_eq_some_iff.1 hq;obtain⟨j,hj,hq⟩:=Option.bind_eq_some_iff.1 hq;have ea:=htr _ _ ha;have ej:=htr _ _ hj
  split at hq
  ·rename_i n e hu
   split at hq
   ·rename_i hp1
    cases hq
    simp only[Bool.and_eq_true,beq_iff_eq]at hp1;obtain⟨h1,h2,h3,h4,h5⟩:=hpre;obtain⟨k,hk⟩:=ak h2;simp only[execOp,hop,ea,ej,PM.val];refine aw ?_;generalize u2:(r j).i=q at*;generalize nw:(r a).g=cs at*;rw[aN h1,hk,nw];have lR:0<=q/\q<(n:Int):=⟨h3,h4⟩
    simp only[Instr.index,Sem.run_bind,asIntOf,run_underlying hu,Result.andThen,Sem.run_pure,lR,and_self,if_true,bM P e (show P.cellsOf e≠0 by omega),hp1.2,part,cg hp1.1,Bool.false_eq_true,if_false,Nat.mul_one];simp[h5]
   ·split at hq
    ·rename_i nv
     cases hq
     obtain⟨h1,h2,h3,h4⟩:=hpre;obtain⟨k,hk⟩:=ak h2;simp only[execOp,hop,ea,ej,PM.val];refine aw ?_;generalize u2:(r j).i=q at*;generalize nw:(r a).g=cs at*;rw[aN h1,hk,nw];have lR:0<=q/\q<(n:Int):=⟨h3,h4⟩
     obtain⟨g1,g2⟩:=bq nv w;simp only[Instr.index,Sem.run_bind,asIntOf,run_underlying hu,Result.andThen,Sem.run_pure,lR,and_self,if_true,aj P e g2,part,g1]
    ·cases hq
  ·rename_i hu
   cases hq
   obtain⟨h1,h2,h3,h4⟩:=hpre;obtain⟨k,hk⟩:=ak h2;simp only[execOp,hop,ea,ej,PM.val];refine aw ?_;generalize u2:(r j).i=q at*;generalize nw:(r a).s=st at*;rw[ay h1,hk,nw];have hlt:q.toNat<st.size:=by omega
   simp only[Instr.index,Sem.run_bind,asIntOf,run_underlying hu,Result.andThen,Sem.run_pure,h3,if_true];simp[hlt]
  ·cases hq
 ·-- field
  rename_i t x f hop;obtain⟨a,ha,hq⟩:=Option.bind_eq_some_iff.1 hq;have ea:=htr _ _ ha
  split at hq
  case h_2=>cases hq
  rename_i fs hu
  split at hq
  case h_2=>cases hq
  rename_i fd hf
  split at hq
  ·rename_i hp1
   cases hq
   obtain⟨h1,h2⟩:=hpre;simp only[execOp,hop,ea,PM.val];refine aw ?_;generalize nw:(r a).g=cs at*;rw[aN h1,nw];simp only[Instr.field,Sem.run_bind,run_underlying hu,Result.andThen,hf,asAgg,Sem.run_pure,part,cg hp1,Bool.false_eq_true,if_false];simp[h2]
  ·split at hq
   case isFalse=>cases hq
   rename_i nv
   cases hq
   obtain⟨g1,g2⟩:=bq nv w;simp only[execOp,hop,ea,PM.val];refine aw ?_;generalize nw:(r a).g=cs at*;rw[aN (v:=r a) hpre,nw];simp only[Instr.field,Sem.run_bind,run_underlying hu,Result.andThen,hf,asAgg,Sem.run_pure,part,g1,if_true,aj P fd.type g2]
 ·-- build
  rename_i t parts hop
  split at hq
  case h_2=>cases hq
  rename_i z hz;obtain⟨i,hi,hz⟩:=Option.bind_eq_some_iff.1 hz;have hzero:(zeroValue t).run P w=.ok z w:=by simp[zeroValue,typeInfo,program,Sem.run,hi,hz,Sem.run_bind,Result.andThen]
  split at hq
  ·rename_i fs hu
   split at hq
   case isFalse=>cases hq
   rename_i hall;obtain⟨ps,lH,rfl⟩:=Option.map_eq_some_iff.1 hq;simp only[execOp,hop,PM.val];refine aw ?_;have hf:=cY z.cells lH htr hpre;have qO:(fs.mapM (fun f=>do pure (f.offset,<-sizeOf f.type):Field->Sem (Nat×Nat))).run P w=.ok (fs.map fun f=>(f.offset,P.cellsOf f.type)) w:=by
    rw[Array.mapM_eq_mapM_toList];have key:∀l:List Field,(∀f∈l,(P.info? f.type).isSome=true)->(l.mapM (fun f=>do pure (f.offset,<-sizeOf f.type):Field->Sem (Nat×Nat))).run P w=.ok (l.map fun f=>(f.offset,P.cellsOf f.type)) w:=by
     intro l
     induction l with
     |nil=>intro _;simp
     |cons f l ih=>
      intro hl;have h1:=aj P f.type (hl f (by simp)) w;have h2:=ih (fun g hg=>hl g (by simp[hg]));simp only[bind_pure_comp]at h2;simp[List.mapM_cons,h1,h2,Result.andThen]
    have:=key fs.toList (fun f hf=>by
     have:=(Array.all_eq_true' ..|>.1 hall) f (by simpa using hf);simpa using this)
    simp only[bind_pure_comp]at this;simp[this,Result.andThen];rw[<-List.map_toArray]
   simp only[Instr.build,Sem.run_bind,hzero,Result.andThen,run_underlying hu,qO];simp only[Array.toList_map];have e:(fun i:Nat=>(fs.map fun(f:Field)=>(f.offset,P.cellsOf f.type))[i]?)=(fun i:Nat=>(fs[i]?).map fun(f:Field)=>(f.offset,P.cellsOf f.type)):=by
    funext i;simp
   rw[e,hf]
   rfl
  ·rename_i n e hu
   split at hq
   case isFalse=>cases hq
   rename_i he;obtain⟨ps,lH,rfl⟩:=Option.map_eq_some_iff.1 hq;simp only[execOp,hop,PM.val];refine aw ?_;have hf:=cY z.cells lH htr hpre;simp only[Instr.build,Sem.run_bind,hzero,Result.andThen,run_underlying hu,aj P e he];simp only[Array.toList_map];rw[hf]
   rfl
  ·cases hq
 ·-- slice with a third bound
  rename_i t x lo hi mx hop;obtain⟨a,ha,hq⟩:=Option.bind_eq_some_iff.1 hq;obtain⟨l,hl,hq⟩:=Option.bind_eq_some_iff.1 hq;obtain⟨h,hh,hq⟩:=Option.bind_eq_some_iff.1 hq;obtain⟨m,hm,hq⟩:=Option.bind_eq_some_iff.1 hq;have el:=eC hl htr
  split at hq
  case h_2=>cases hq
  rename_i e hu
  split at hq
  case isFalse=>cases hq
  rename_i he
  cases hq
  obtain⟨h1,h2,h3,h4,h5,h6,h7,h8⟩:=hpre;have hp:=aV h1;simp only[execOp,hop,htr _ _ ha,el,Option.map_some,htr _ _ hh,htr _ _ hm,PM.val];refine aw ?_;generalize r a=v at*;generalize bC v=ad at*;generalize av v=ln at*;generalize bp v=cp at*;subst hp;simp only[Instr.sliceAt,Instr.slice,Sem.run_bind,run_underlying hu,Result.andThen,Sem.run_pure];rw[ig h2 h3 h4 h5 h6 h7 h8];simp only[aj P e he,pv]
 ·-- bytes to a string
  rename_i s t x hop;obtain⟨a,ha,hq⟩:=Option.bind_eq_some_iff.1 hq
  split at hq
  case h_2=>cases hq
  rename_i e hs ht
  split at hq
  case isFalse=>cases hq
  rename_i he
  cases hq
  unfold uX at he
  split at he
  case h_2=>cases he
  rename_i vQ;simp only[execOp,hop,htr _ _ ha,PM.val];exact aw (nr hs ht vQ hpre)
 ·-- a closure
  rename_i g fs cs hop;obtain⟨a,ha,hq⟩:=Option.bind_eq_some_iff.1 hq;obtain⟨b,hb,rfl⟩:=Option.map_eq_some_iff.1 hq;have ea:=fN ha htr;have eb:=fN hb htr;simp only[execOp,hop,PM.val];refine aw ?_;have e1:fs.map ρ=(a.map r).toArray:=by apply Array.ext';rw[Array.toList_map];exact ea
  have e2:cs.map ρ=(b.map r).toArray:=by apply Array.ext';rw[Array.toList_map];exact eb
  rw[e1,e2]
  rfl
 ·-- lookup
  rename_i t x i ok hop;obtain⟨a,ha,hq⟩:=Option.bind_eq_some_iff.1 hq;obtain⟨b,hb,hq⟩:=Option.bind_eq_some_iff.1 hq
  split at hq
  case h_2=>cases hq
  rename_i k e hu
  split at hq
  case h_3=>cases hq
  ·rename_i z hk hz
   cases hq
   obtain⟨h1,es,h2,h3⟩:=hpre;simp only[execOp,hop,htr _ _ ha,htr _ _ hb,PM.val,h2,Option.getD_some];exact aw (iW hu hk hz h2 h3 h1)
  ·rename_i kk z hk hz
   split at hq
   ·cases hq
   ·rename_i hok
    cases hq
    have hok:ok=false:=by simpa using hok
    obtain⟨h1,es,h2,h3⟩:=hpre;simp only[execOp,hop,htr _ _ ha,htr _ _ hb,PM.val,h2,Option.getD_some,hok];exact aw (il hu hk hz h2 h3 h1)
 ·-- interface
  rename_i t x hop;obtain⟨a,ha,hq⟩:=Option.bind_eq_some_iff.1 hq
  split at hq
  ·cases hq
  ·rename_i d hd hu
   cases hq
   simp only[execOp,hop,htr _ _ ha,PM.val];refine aw ?_;unfold Instr.makeInterface;simp only[Sem.run_bind,run_underlying hu,Result.andThen]
   cases d<;>first|rfl|exact absurd rfl (hd _)
  ·cases hq
 ·-- type assertion
  rename_i x xt t hop;obtain⟨a,ha,hq⟩:=Option.bind_eq_some_iff.1 hq
  split at hq
  ·cases hq
  ·rename_i d hd hu
   cases hq
   simp only[execOp,hop,htr _ _ ha,PM.val];refine aw ?_;have hpre:isIf t (r a):=hpre;unfold isIf at hpre
   split at hpre
   case h_2=>exact hpre.elim
   rename_i u v hv;subst hpre;rw[hv];unfold Instr.typeAssert;simp only[Sem.run_bind,run_underlying hu,Result.andThen]
   cases d<;>first|(simp[uY,Sem.run_pure];done)|exact absurd rfl (hd _)
  ·cases hq
 ·cases hq
end
end Go.Mg
