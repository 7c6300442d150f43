/- Part of the proof of EngineAdaptsCardSaid: a lemma text of ours, over the kit alone. No conditions. -/
import Derived.Test.YtoclemmcphgikaaGreatDoorMgMoreS
import Derived.Laws.BytesString
namespace Go.Mg
open Go Go.RowKit
section
variable {P:Program} {o:Oper} {w:World} {ρ:Operand->Value} {tr:Operand->Option A} {r:A->Value}
theorem trO_spec {x:Option Operand} {y:Option A} (h:trO tr x=some y) (htr:∀y z,tr y=some z->ρ y=r z):x.map ρ=y.map r:=by
 cases x with
 |none=>cases h;rfl
 |some x=>obtain⟨z,hz,rfl⟩:=Option.map_eq_some_iff.1 h;simp[htr _ _ hz]
theorem bound_run {v:Value} (hv:isInt v) {y:Nat} {c:BoundsCode} (h0:0<=v.i) (h1:v.i<=y):(Instr.sliceBound v y c).run P w=.ok v.i.toNat w:=by
 obtain⟨k,hk⟩:=isInt_spec hv
 generalize hn:v.i=n at*
 rw[hk]
 simp only[Instr.sliceBound,asIntOf,Sem.run_bind,Sem.run_pure,Result.andThen,h0,h1,and_self,if_true]
theorem bounds_run {b:Bool} {len cap:Nat} {lo hi:Option A} (hl:okI r lo) (hh:okI r hi) (h:okLH len cap (oi r lo) (oi r hi)):
  (Instr.sliceBounds b len cap (lo.map r) (hi.map r) none).run P w=.ok (loN (oi r lo),hiN len (oi r hi),cap) w:=by
 cases lo with
 |none=>cases hi with
  |none=>rfl
  |some y=>
   obtain⟨h1,h2⟩:=h
   simp only[Instr.sliceBounds,Sem.run_bind,Sem.run_pure,Result.andThen,Option.map_some,Option.map_none,bound_run hh h1 h2]
   rfl
 |some x=>cases hi with
  |none=>
   obtain⟨h1,h2⟩:=h
   simp only[Instr.sliceBounds,Sem.run_bind,Sem.run_pure,Result.andThen,Option.map_some,Option.map_none,bound_run hl h1 h2]
   rfl
  |some y=>
   obtain⟨h1,h2,h3⟩:=h
   simp only[Instr.sliceBounds,Sem.run_bind,Sem.run_pure,Result.andThen,Option.map_some]
   have h1:0<=(r x).i:=h1
   have h2:(r x).i<=(r y).i:=h2
   rw[bound_run hh (by omega) h3]
   simp only
   rw[bound_run hl h1 (by omega)]
   rfl
theorem bounds3_run {b:Bool} {len cap:Nat} {lo:Option A} {hi mx:A} (hl:okI r lo) (hh:isInt (r hi)) (hm:isInt (r mx)) (h1:0<=(oi r lo).getD 0) (h2:(oi r lo).getD 0<=(r hi).i) (h3:(r hi).i<=(r mx).i) (h4:(r mx).i<=cap):
  (Instr.sliceBounds b len cap (lo.map r) (some (r hi)) (some (r mx))).run P w=.ok (loN (oi r lo),(r hi).i.toNat,(r mx).i.toNat) w:=by
 cases lo with
 |none=>
  have h1':(0:Int)<=(r hi).i:=h2
  simp only[Instr.sliceBounds,Sem.run_bind,Sem.run_pure,Result.andThen,Option.map_none]
  rw[bound_run hm (by omega) h4]
  simp only
  rw[bound_run hh h1' (by omega)]
  rfl
 |some x=>
  have h1':0<=(r x).i:=h1
  have h2':(r x).i<=(r hi).i:=h2
  simp only[Instr.sliceBounds,Sem.run_bind,Sem.run_pure,Result.andThen,Option.map_some]
  rw[bound_run hm (by omega) h4]
  simp only
  rw[bound_run hh (by omega) (by omega)]
  simp only
  rw[bound_run hl h1' (by omega)]
  rfl
theorem b2s_list:∀(l:List Value),(∀x∈l,isI .u8 x)->(l.map Value.i).map (Value.int .u8)=l
 |[],_=>rfl
 |x::l,h=>by
  have e:=isI_spec (h x (by simp))
  simp only[List.map_cons]
  rw[b2s_list l (fun y hy=>h y (by simp[hy])),<-e]
theorem b2s_fold:∀(l:List Value) (q:ByteArray),(l.map Value.i).foldl (fun q n=>q.push (UInt8.ofNat n.toNat)) q=⟨q.data++(l.map fun v=>UInt8.ofNat v.i.toNat).toArray⟩
 |[],q=>by simp
 |x::l,q=>by
  simp only[List.map_cons,List.foldl_cons]
  rw[b2s_fold l]
  simp[ByteArray.push]
theorem b2s_run {s t e:TypeId} {v:Value} (hs:P.underlying s=some (.slice e)) (ht:P.underlying t=some .string) (he:P.underlying e=some (.int .u8)) (h:okB2s w.heap v):
  (convert s t v).run P w=.ok (.string (toBA ((bytesIn w.heap v).getD #[]))) w:=by
 obtain⟨xs,hx,hb⟩:=h
 rw[hx,Option.getD_some]
 cases v with
 |slice a n c=>
  rw[run_convert_bytes_string w s t e a n c hs he ht]
  cases a with
  |none=>cases hx;simp[Conv.bytesToString,Sem.run_pure,toBA];rfl
  |some p=>
   have hl:(loadCells p n).run P w=.ok xs w:=by
    simp only[bytesIn]at hx
    split at hx
    ·rename_i h0;subst h0;cases hx;rfl
    ·exact ldN_run hx
   have hz:=b2s_list xs.toList hb
   have hxs:xs=((xs.toList.map Value.i).map (Value.int .u8)).toArray:=by rw[hz]
   rw[hxs]at hl
   rw[run_bytesToString w p n c _ hl,b2s_fold]
   congr 2
   apply ByteArray.ext
   simp only[toBA]
   apply Array.ext'
   simp
 |_=>cases hx
theorem foldl_wrA:∀(xs:List Value) (j:Nat) (C:Array Value) (off:Nat),off+j+xs.length<=C.size->(xs.zipIdx j).foldl (fun cs (x:Value×Nat)=>cs.setIfInBounds (off+x.2) x.1) C=wrA C (off+j) xs
 |[],j,C,off,_=>by simp[wrA_nil]
 |x::xs,j,C,off,h=>by
  simp only[List.length_cons]at h
  simp only[List.zipIdx_cons,List.foldl_cons]
  rw[foldl_wrA xs (j+1) _ off (by simp;omega),<-wrA_cons (x:=x) (by omega)]
  rfl
theorem fill_run {place:Nat->Option (Nat×Nat)}:∀{parts:List (Nat×Operand)} {ps:List (Nat×Nat×A)} (C:Array Value),trParts tr place parts=some ps->(∀y z,tr y=some z->ρ y=r z)->okFill r C.size ps→
  Instr.fill place C (parts.map fun p=>(p.1,ρ p.2))=some (fillV r C ps)
 |[],ps,C,h,_,_=>by cases h;rfl
 |(i,x)::l,ps,C,h,htr,hok=>by
  simp only[trParts]at h
  obtain⟨p,hp,h⟩:=Option.bind_eq_some_iff.1 h
  obtain⟨a,ha,h⟩:=Option.bind_eq_some_iff.1 h
  obtain⟨ps',hps,rfl⟩:=Option.map_eq_some_iff.1 h
  obtain⟨h1,h2,h3⟩:=hok
  obtain⟨off,size⟩:=p
  simp only at h1 h2 h3
  have hlen:off+(r a).cells.toList.length<=C.size:=by simp[h1];exact h2
  have e:(r a).cells.zipIdx.foldl (fun cs (x:Value×Nat)=>cs.setIfInBounds (off+x.2) x.1) C=wrA C off (r a).cells.toList:=by
   rw[<-Array.foldl_toList,Array.toList_zipIdx]
   exact foldl_wrA _ 0 C off (by omega)
  have ih:=fill_run (place:=place) (wrA C off (r a).cells.toList) hps htr (by rw[wrA_size hlen];exact h3)
  have hc:((decide ((r a).cells.size≠size))||decide (off+(r a).cells.size>C.size))=false:=by
   simp[h1];omega
  simp only[List.map_cons,Instr.fill,hp,htr _ _ ha,hc,Bool.false_eq_true,if_false,fillV]
  rw[<-ih,<-e]
theorem builtin_run {b:Builtin} {args:Array Operand} {ts:Array TypeId} (ho:o.op=.call {callee:=.builtin b,args:=args,argTypes:=ts}) {s:Sem Value} {v:Value}
  (hb:∀cs vs,builtin b ts o.type cs vs=(do pure (.value (←(match b with|.len=>Builtin.len_ ts o.type vs|.cap=>Builtin.cap_ ts o.type vs|.min=>Builtin.min_ ts o.type vs|.max=>Builtin.max_ ts o.type vs|_=>s)))))
  (h:(match b with|.len=>Builtin.len_ ts o.type (args.map ρ)|.cap=>Builtin.cap_ ts o.type (args.map ρ)|.min=>Builtin.min_ ts o.type (args.map ρ)|.max=>Builtin.max_ ts o.type (args.map ρ)|_=>s).run P w=.ok v w):
  (execOp ρ o).run P w=.ok (.value v) w:=by
 simp only[execOp,ho,resolve,Sem.run_bind,Sem.run_pure,Result.andThen,invoke]
 rw[hb]
 exact fin_v h
theorem trLs_spec {l:List Operand} {as:List A} (h:trLs tr l=some as) (htr:∀y z,tr y=some z->ρ y=r z):l.map ρ=as.map r:=by
 induction l generalizing as with
 |nil=>cases h;rfl
 |cons x l ih=>
  simp only[trLs]at h
  obtain⟨a,ha,h⟩:=Option.bind_eq_some_iff.1 h
  obtain⟨b,hb,rfl⟩:=Option.map_eq_some_iff.1 h
  simp[htr _ _ ha,ih hb]
theorem checkKey_string (e:Bool) {t:TypeId} (ht:P.underlying t=some .string) (n:Nat) (v:Value):(Instr.checkKey e (n+1) t v).run P w=.ok () w:=by
 unfold Instr.checkKey
 simp only[Sem.run_bind,run_underlying ht,Result.andThen]
 rfl
theorem findNow_string (k:ByteArray):∀(es:List MapEntry) (i:Nat),(∀e∈es,isS e.key)->∃x,Instr.findNow .string (.string k) es i=some x/\x.map (·.2)=findE k es
 |[],i,_=>⟨none,rfl,rfl⟩
 |e::es,i,h=>by
  have hk:=isS_spec (h e (by simp))
  unfold Instr.findNow
  rw[hk]
  simp only[Instr.sameNow]
  by_cases hb:(k==e.key.s)=true
  ·rw[hb]
   refine⟨_,rfl,?_⟩
   simp[findE,List.find?,hb]
  ·have hb':(k==e.key.s)=false:=by simpa using hb
   rw[hb']
   obtain⟨x,h1,h2⟩:=findNow_string k es (i+1) (fun e he=>h e (by simp[he]))
   refine⟨x,h1,?_⟩
   rw[h2]
   simp[findE,List.find?,hb']
theorem findNow_int (kk:IntKind) (n:Int):∀(es:List MapEntry) (i:Nat),(∀e∈es,isI kk e.key)->∃x,Instr.findNow (.int kk) (.int kk n) es i=some x/\x.map (·.2)=findI n es/\x.map (·.1)=(es.findIdx? fun e=>n==e.key.i).map (·+i)
 |[],i,_=>⟨none,rfl,rfl,rfl⟩
 |e::es,i,h=>by
  have hk:=isI_spec (h e (by simp))
  unfold Instr.findNow
  rw[hk]
  simp only[Instr.sameNow,if_true]
  by_cases hb:(n==e.key.i)=true
  ·rw[hb]
   refine⟨_,rfl,?_,?_⟩
   ·simp[findI,List.find?,hb]
   ·simp[List.findIdx?_cons,hb]
  ·have hb':(n==e.key.i)=false:=by simpa using hb
   rw[hb']
   obtain⟨x,h1,h2,h3⟩:=findNow_int kk n es (i+1) (fun e he=>h e (by simp[he]))
   refine⟨x,h1,?_,?_⟩
   ·rw[h2]
    simp[findI,List.find?,hb']
   ·rw[h3,List.findIdx?_cons,hb']
    cases es.findIdx? (fun e=>n==e.key.i)with
    |none=>rfl
    |some j=>simp;omega
theorem checkKey_int (e:Bool) {kk:IntKind} {t:TypeId} (ht:P.underlying t=some (.int kk)) (n:Nat) (v:Value):(Instr.checkKey e (n+1) t v).run P w=.ok () w:=by
 unfold Instr.checkKey
 simp only[Sem.run_bind,run_underlying ht,Result.andThen]
 rfl
theorem mapIn_spec {H:Hp} {v:Value} {es:List MapEntry} (h:mapIn H v=some es):(v=.map none/\es=[])\/∃b a c,v=.map (some b)/\H[b]?=some (.map a c)/\es=a.toList:=by
 cases v with
 |map o=>
  cases o with
  |none=>left;simp[mapIn]at h;exact⟨rfl,h⟩
  |some b=>
   right
   simp only[mapIn]at h
   cases hb:H[b]? with
   |none=>rw[hb]at h;cases h
   |some o=>
    rw[hb]at h
    cases o with
    |map a c=>cases h;exact⟨b,a,c,rfl,hb,rfl⟩
    |_=>cases h
 |_=>simp[mapIn]at h
theorem lookup_run {t k e:TypeId} {z:Value} {m:Value} {kv:Value} {es:List MapEntry} {ok:Bool} (ht:P.underlying t=some (.map k e)) (hk:P.underlying k=some .string) (hz:(P.info? e).bind (·.zero)=some z)
  (hm:mapIn w.heap m=some es) (hs:∀e∈es,isS e.key) (hkv:isS kv):
  (Instr.lookup t m kv ok).run P w=.ok (if ok=true then .tuple #[(findE kv.s es).getD z,.bool (findE kv.s es).isSome]else(findE kv.s es).getD z) w:=by
 obtain⟨i,hi,hz⟩:=Option.bind_eq_some_iff.1 hz
 have hzero:(zeroValue e).run P w=.ok z w:=by simp[zeroValue,typeInfo,program,Sem.run,hi,hz,Sem.run_bind,Result.andThen]
 have hkv:=isS_spec hkv
 generalize kv.s=q at*
 subst hkv
 obtain⟨x,h1,h2⟩:=findNow_string q es 0 hs
 have hck:∀e:Bool,(Instr.checkKey e 10000 k (.string q)).run P w=.ok () w:=fun e=>checkKey_string e hk 9999 _
 have hfk:∀l:List MapEntry,l=es->(Instr.findKey k (.string q) l).run P w=.ok x w:=fun l hl=>by
  subst hl
  simp only[Instr.findKey,Sem.run_bind,run_underlying hk,Result.andThen,h1,Sem.run_pure]
 have e0:findE q es=x.map (·.2):=h2.symm
 unfold Instr.lookup
 rw[e0]
 rcases mapIn_spec hm with⟨rfl,rfl⟩|⟨b,a,c,rfl,hb,rfl⟩
 ·simp only[Sem.run_bind,run_underlying ht,Result.andThen,Sem.run_pure,hck,hfk [] rfl]
  cases x with
  |none=>simp only[hzero,Sem.run_bind,Result.andThen,Sem.run_pure];cases ok<;>rfl
  |some p=>obtain⟨i,v⟩:=p;simp only[Sem.run_pure,Sem.run_bind,Result.andThen];cases ok<;>rfl
 ·have hg:(getObj b).run P w=.ok (.map a c) w:=by simp[getObj,Sem.run,hb]
  simp only[Sem.run_bind,run_underlying ht,Result.andThen,hg,Sem.run_pure,hck,hfk a.toList rfl]
  cases x with
  |none=>simp only[hzero,Sem.run_bind,Result.andThen,Sem.run_pure];cases ok<;>rfl
  |some p=>obtain⟨i,v⟩:=p;simp only[Sem.run_pure,Sem.run_bind,Result.andThen];cases ok<;>rfl
theorem lookupI_run {t k e:TypeId} {kk:IntKind} {z:Value} {m:Value} {kv:Value} {es:List MapEntry} (ht:P.underlying t=some (.map k e)) (hk:P.underlying k=some (.int kk)) (hz:(P.info? e).bind (·.zero)=some z)
  (hm:mapIn w.heap m=some es) (hs:∀e∈es,isI kk e.key) (hkv:isI kk kv):
  (Instr.lookup t m kv false).run P w=.ok ((findI kv.i es).getD z) w:=by
 obtain⟨i,hi,hz⟩:=Option.bind_eq_some_iff.1 hz
 have hzero:(zeroValue e).run P w=.ok z w:=by simp[zeroValue,typeInfo,program,Sem.run,hi,hz,Sem.run_bind,Result.andThen]
 have hkv:=isI_spec hkv
 generalize kv.i=q at*
 subst hkv
 obtain⟨x,h1,h2,-⟩:=findNow_int kk q es 0 hs
 have hck:∀e:Bool,(Instr.checkKey e 10000 k (.int kk q)).run P w=.ok () w:=fun e=>checkKey_int e hk 9999 _
 have hfk:∀l:List MapEntry,l=es->(Instr.findKey k (.int kk q) l).run P w=.ok x w:=fun l hl=>by
  subst hl
  simp only[Instr.findKey,Sem.run_bind,run_underlying hk,Result.andThen,h1,Sem.run_pure]
 have e0:findI q es=x.map (·.2):=h2.symm
 unfold Instr.lookup
 rw[e0]
 rcases mapIn_spec hm with⟨rfl,rfl⟩|⟨b,a,c,rfl,hb,rfl⟩
 ·simp only[Sem.run_bind,run_underlying ht,Result.andThen,Sem.run_pure,hck,hfk [] rfl]
  cases x with
  |none=>simp only[hzero,Sem.run_bind,Result.andThen,Sem.run_pure];rfl
  |some p=>obtain⟨i,v⟩:=p;simp only[Sem.run_pure,Sem.run_bind,Result.andThen];rfl
 ·have hg:(getObj b).run P w=.ok (.map a c) w:=by simp[getObj,Sem.run,hb]
  simp only[Sem.run_bind,run_underlying ht,Result.andThen,hg,Sem.run_pure,hck,hfk a.toList rfl]
  cases x with
  |none=>simp only[hzero,Sem.run_bind,Result.andThen,Sem.run_pure];rfl
  |some p=>obtain⟨i,v⟩:=p;simp only[Sem.run_pure,Sem.run_bind,Result.andThen];rfl
theorem trLs_map {l:List Operand} {m:List A} (htr:∀y z,tr y=some z->ρ y=r z) (h:trLs tr l=some m):l.map ρ=m.map r:=by
 induction l generalizing m with
 |nil=>cases h;rfl
 |cons x l ih=>
  simp only[trLs]at h
  obtain⟨a,ha,h⟩:=Option.bind_eq_some_iff.1 h
  obtain⟨b,hb,rfl⟩:=Option.map_eq_some_iff.1 h
  simp[htr _ _ ha,ih hb]
theorem max_run (w:World):∀(m:List A),(∀b∈m,isInt (r b))->∀v,isInt v->((m.map r).foldlM Builtin.max2 v).run P w=.ok (.int (kindOf v) (mxF v.i (m.map fun b=>(r b).i))) w
 |[],_,v,hv=>by
  obtain⟨k,hk⟩:=isInt_spec hv
  generalize v.i=i at*
  subst hk
  simp[mxF,kindOf]
 |b::m,h,v,hv=>by
  obtain⟨k,hk⟩:=isInt_spec hv
  obtain⟨k',hk'⟩:=isInt_spec (h b (by simp))
  have e:(Builtin.max2 v (r b)).run P w=.ok (.int k (if(r b).i>v.i then(r b).i else v.i)) w:=by
   generalize v.i=i at*
   generalize(r b).i=j at*
   rw[hk,hk']
   simp[Builtin.max2]
  simp only[List.map_cons,List.foldlM_cons]
  rw[run_bindok e,max_run w m (fun c hc=>h c (by simp[hc])) (.int k (if(r b).i>v.i then(r b).i else v.i)) trivial]
  have e2:kindOf v=k:=by rw[hk];rfl
  rw[e2];rfl
theorem pm_sound {q:PM} (hq:pm P tr o=some q) (htr:∀y z,tr y=some z->ρ y=r z) (hc:∀v,ρ (.const v)=v) (hpre:q.pre r w.heap):
  (execOp ρ o).run P w=.ok (.value (q.val r w.heap)) w:=by
 unfold pm at hq
 split at hq
 ·-- load
  rename_i t x hop
  split at hq
  case isFalse=>cases hq
  rename_i hag
  obtain⟨a,ha,rfl⟩:=Option.map_eq_some_iff.1 hq
  obtain⟨h1,h2⟩:=isAgg_aggr hag w
  simp only[execOp,hop,htr _ _ ha]
  refine fin_v ?_
  simp only[PM.pre]at hpre
  simp only[PM.val]
  obtain⟨xs,hxs⟩:=Option.isSome_iff_exists.1 hpre
  rw[hxs]
  unfold ldNO at hxs
  split at hxs
  case h_2=>cases hxs
  rename_i p hp
  rw[hp]
  simp only[Instr.loadAt,Instr.sureAddr,Sem.run_bind,Sem.run_pure,Result.andThen,loadVar,h1,if_true,sizeOf_run' P t h2,ldN_run hxs,Option.getD_some]
 ·rename_i t x y u hop;exact pmEq_sound (op:=.eql) rfl hop hq htr hc hpre
 ·rename_i t x y u hop;exact pmEq_sound (op:=.neq) rfl hop hq htr hc hpre
 ·-- slice
  rename_i t x lo hi hop
  obtain⟨a,ha,hq⟩:=Option.bind_eq_some_iff.1 hq
  obtain⟨l,hl,hq⟩:=Option.bind_eq_some_iff.1 hq
  obtain⟨h,hh,hq⟩:=Option.bind_eq_some_iff.1 hq
  have el:=trO_spec hl htr
  have eh:=trO_spec hh htr
  split at hq
  ·rename_i n e hu
   split at hq
   case isFalse=>cases hq
   rename_i he
   cases hq
   obtain⟨h1,h2,h3,h4⟩:=hpre
   obtain⟨p,hp⟩:=isP_spec h1
   simp only[execOp,hop,htr _ _ ha,el,eh,PM.val]
   refine fin_v ?_
   rw[hp]
   simp only[Instr.sliceAt,Sem.run_bind,run_underlying hu,Result.andThen,Instr.sureAddr,Sem.run_pure,Option.map_none]
   rw[bounds_run h2 h3 h4]
   simp only[sizeOf_run' P e he,slaV]
  ·rename_i e hu
   split at hq
   case isFalse=>cases hq
   rename_i he
   cases hq
   obtain⟨h1,h2,h3,h4⟩:=hpre
   have hp:=isSl_spec h1
   simp only[execOp,hop,htr _ _ ha,el,eh,PM.val]
   refine fin_v ?_
   generalize r a=v at*
   generalize adrV v=ad at*;generalize lenV v=ln at*;generalize capV v=cp at*
   subst hp
   simp only[Instr.sliceAt,Instr.slice,Sem.run_bind,run_underlying hu,Result.andThen,Sem.run_pure,Option.map_none]
   rw[bounds_run h2 h3 h4]
   simp only[sizeOf_run' P e he,slV]
  ·rename_i hu
   cases hq
   obtain⟨h1,h2,h3,h4⟩:=hpre
   have hp:=isS_spec h1
   simp only[execOp,hop,htr _ _ ha,el,eh,PM.val]
   refine fin_v ?_
   generalize r a=v at*
   generalize v.s=st at*
   subst hp
   simp only[Instr.sliceAt,Instr.slice,Sem.run_bind,run_underlying hu,Result.andThen,Sem.run_pure,Option.map_none,Option.isSome_none,Bool.false_eq_true,if_false]
   rw[bounds_run h2 h3 h4]
  ·cases hq
 ·-- len
  rename_i args ts hop
  split at hq
  case h_2=>cases hq
  rename_i x t ha ht
  obtain⟨a,hx,hq⟩:=Option.bind_eq_some_iff.1 hq
  have e1:args=#[x]:=by cases args;simpa using ha
  have e2:ts=#[t]:=by cases ts;simpa using ht
  subst e1;subst e2
  refine builtin_run (s:=pure undef) hop (fun _ _=>rfl) ?_
  simp only[List.map_toArray,List.map_cons,List.map_nil,htr _ _ hx]
  split at hq<;>cases hq
  ·rename_i hu
   have e:=isS_spec (v:=r a) hpre
   simp only[PM.val]
   generalize r a=v at*
   generalize v.s=q at*
   subst e
   simp[Builtin.len_,Sem.run_bind,run_underlying hu,Result.andThen,goInt]
  ·rename_i _ hu
   have e:=isSl_spec (v:=r a) hpre
   simp only[PM.val]
   generalize r a=v at*
   generalize adrV v=ad at*;generalize lenV v=ln at*;generalize capV v=cp at*
   subst e
   simp[Builtin.len_,Sem.run_bind,run_underlying hu,Result.andThen,goInt]
  ·rename_i _ _ hu
   simp only[PM.val]
   simp[Builtin.len_,Sem.run_bind,run_underlying hu,Result.andThen,goInt]
 ·-- cap
  rename_i args ts hop
  split at hq
  case h_2=>cases hq
  rename_i x t ha ht
  obtain⟨a,hx,hq⟩:=Option.bind_eq_some_iff.1 hq
  have e1:args=#[x]:=by cases args;simpa using ha
  have e2:ts=#[t]:=by cases ts;simpa using ht
  subst e1;subst e2
  refine builtin_run (s:=pure undef) hop (fun _ _=>rfl) ?_
  simp only[List.map_toArray,List.map_cons,List.map_nil,htr _ _ hx]
  split at hq<;>cases hq
  rename_i _ hu
  have e:=isSl_spec (v:=r a) hpre
  simp only[PM.val]
  generalize r a=v at*
  generalize adrV v=ad at*;generalize lenV v=ln at*;generalize capV v=cp at*
  subst e
  simp[Builtin.cap_,Sem.run_bind,run_underlying hu,Result.andThen,goInt]
 ·-- min
  rename_i args ts hop
  split at hq
  case h_2=>cases hq
  rename_i x y ha
  obtain⟨a,hx,hq⟩:=Option.bind_eq_some_iff.1 hq
  obtain⟨b,hy,hq⟩:=Option.bind_eq_some_iff.1 hq
  cases hq
  have e1:args=#[x,y]:=by cases args;simpa using ha
  subst e1
  obtain⟨h1,h2⟩:=hpre
  refine builtin_run (s:=pure undef) hop (fun _ _=>rfl) ?_
  simp only[List.map_toArray,List.map_cons,List.map_nil,htr _ _ hx,htr _ _ hy,PM.val]
  obtain⟨k,hk⟩:=isInt_spec h1
  obtain⟨k',hk'⟩:=isInt_spec h2
  generalize(r a).i=m at*
  generalize(r b).i=n at*
  rw[hk,hk']
  simp[Builtin.min_,Builtin.min2,kindOf]
 ·-- max
  rename_i args ts hop
  split at hq
  case h_3=>cases hq
  case h_2=>
   rename_i x y z l ha
   obtain⟨a,hx,hq⟩:=Option.bind_eq_some_iff.1 hq
   obtain⟨m,hm,rfl⟩:=Option.map_eq_some_iff.1 hq
   have e1:args=(x::y::z::l).toArray:=by cases args;simpa using ha
   subst e1
   obtain⟨h1,h2⟩:=hpre
   refine builtin_run (s:=pure undef) hop (fun _ _=>rfl) ?_
   have hl:=trLs_map htr hm
   simp only[List.map_toArray,List.map_cons,htr _ _ hx,PM.val]at hl⊢
   simp only[Builtin.max_]
   rw[hl]
   exact max_run (r:=r) w m h2 (r a) h1
  rename_i x y ha
  obtain⟨a,hx,hq⟩:=Option.bind_eq_some_iff.1 hq
  obtain⟨b,hy,hq⟩:=Option.bind_eq_some_iff.1 hq
  cases hq
  have e1:args=#[x,y]:=by cases args;simpa using ha
  subst e1
  obtain⟨h1,h2⟩:=hpre
  refine builtin_run (s:=pure undef) hop (fun _ _=>rfl) ?_
  simp only[List.map_toArray,List.map_cons,List.map_nil,htr _ _ hx,htr _ _ hy,PM.val]
  obtain⟨k,hk⟩:=isInt_spec h1
  obtain⟨k',hk'⟩:=isInt_spec h2
  generalize(r a).i=m at*
  generalize(r b).i=n at*
  rw[hk,hk']
  simp[Builtin.max_,Builtin.max2,kindOf]
 ·-- index
  rename_i t x i hop
  obtain⟨a,ha,hq⟩:=Option.bind_eq_some_iff.1 hq
  obtain⟨j,hj,hq⟩:=Option.bind_eq_some_iff.1 hq
  have ea:=htr _ _ ha
  have ej:=htr _ _ hj
  split at hq
  ·rename_i n e hu
   split at hq
   ·rename_i hp1
    cases hq
    simp only[Bool.and_eq_true,beq_iff_eq]at hp1
    obtain⟨h1,h2,h3,h4,h5⟩:=hpre
    obtain⟨k,hk⟩:=isInt_spec h2
    simp only[execOp,hop,ea,ej,PM.val]
    refine fin_v ?_
    generalize hq':(r j).i=q at*
    generalize hg':(r a).g=cs at*
    rw[isAg_spec h1,hk,hg']
    have hcond:0<=q/\q<(n:Int):=⟨h3,h4⟩
    simp only[Instr.index,Sem.run_bind,asIntOf,run_underlying hu,Result.andThen,Sem.run_pure,hcond,and_self,if_true,sizeOf_run P e (show P.cellsOf e≠0 by omega),hp1.2,part,isAgg_plain hp1.1,Bool.false_eq_true,if_false,Nat.mul_one]
    simp[h5]
   ·split at hq
    ·rename_i hag
     cases hq
     obtain⟨h1,h2,h3,h4⟩:=hpre
     obtain⟨k,hk⟩:=isInt_spec h2
     simp only[execOp,hop,ea,ej,PM.val]
     refine fin_v ?_
     generalize hq':(r j).i=q at*
     generalize hg':(r a).g=cs at*
     rw[isAg_spec h1,hk,hg']
     have hcond:0<=q/\q<(n:Int):=⟨h3,h4⟩
     obtain⟨g1,g2⟩:=isAgg_aggr hag w
     simp only[Instr.index,Sem.run_bind,asIntOf,run_underlying hu,Result.andThen,Sem.run_pure,hcond,and_self,if_true,sizeOf_run' P e g2,part,g1]
    ·cases hq
  ·rename_i hu
   cases hq
   obtain⟨h1,h2,h3,h4⟩:=hpre
   obtain⟨k,hk⟩:=isInt_spec h2
   simp only[execOp,hop,ea,ej,PM.val]
   refine fin_v ?_
   generalize hq':(r j).i=q at*
   generalize hg':(r a).s=st at*
   rw[isS_spec h1,hk,hg']
   have hlt:q.toNat<st.size:=by omega
   simp only[Instr.index,Sem.run_bind,asIntOf,run_underlying hu,Result.andThen,Sem.run_pure,h3,if_true]
   simp[hlt]
  ·cases hq
 ·-- field
  rename_i t x f hop
  obtain⟨a,ha,hq⟩:=Option.bind_eq_some_iff.1 hq
  have ea:=htr _ _ ha
  split at hq
  case h_2=>cases hq
  rename_i fs hu
  split at hq
  case h_2=>cases hq
  rename_i fd hf
  split at hq
  ·rename_i hp1
   cases hq
   obtain⟨h1,h2⟩:=hpre
   simp only[execOp,hop,ea,PM.val]
   refine fin_v ?_
   generalize hg':(r a).g=cs at*
   rw[isAg_spec h1,hg']
   simp only[Instr.field,Sem.run_bind,run_underlying hu,Result.andThen,hf,asAgg,Sem.run_pure,part,isAgg_plain hp1,Bool.false_eq_true,if_false]
   simp[h2]
  ·split at hq
   case isFalse=>cases hq
   rename_i hag
   cases hq
   obtain⟨g1,g2⟩:=isAgg_aggr hag w
   simp only[execOp,hop,ea,PM.val]
   refine fin_v ?_
   generalize hg':(r a).g=cs at*
   rw[isAg_spec (v:=r a) hpre,hg']
   simp only[Instr.field,Sem.run_bind,run_underlying hu,Result.andThen,hf,asAgg,Sem.run_pure,part,g1,if_true,sizeOf_run' P fd.type g2]
 ·-- build
  rename_i t parts hop
  split at hq
  case h_2=>cases hq
  rename_i z hz
  obtain⟨i,hi,hz⟩:=Option.bind_eq_some_iff.1 hz
  have hzero:(zeroValue t).run P w=.ok z w:=by simp[zeroValue,typeInfo,program,Sem.run,hi,hz,Sem.run_bind,Result.andThen]
  split at hq
  ·rename_i fs hu
   split at hq
   case isFalse=>cases hq
   rename_i hall
   obtain⟨ps,hps,rfl⟩:=Option.map_eq_some_iff.1 hq
   simp only[execOp,hop,PM.val]
   refine fin_v ?_
   have hf:=fill_run z.cells hps htr hpre
   have hpl:(fs.mapM (fun f=>do pure (f.offset,<-sizeOf f.type):Field->Sem (Nat×Nat))).run P w=.ok (fs.map fun f=>(f.offset,P.cellsOf f.type)) w:=by
    rw[Array.mapM_eq_mapM_toList]
    have key:∀l:List Field,(∀f∈l,(P.info? f.type).isSome=true)->(l.mapM (fun f=>do pure (f.offset,<-sizeOf f.type):Field->Sem (Nat×Nat))).run P w=.ok (l.map fun f=>(f.offset,P.cellsOf f.type)) w:=by
     intro l
     induction l with
     |nil=>intro _;simp
     |cons f l ih=>
      intro hl
      have h1:=sizeOf_run' P f.type (hl f (by simp)) w
      have h2:=ih (fun g hg=>hl g (by simp[hg]))
      simp only[bind_pure_comp]at h2
      simp[List.mapM_cons,h1,h2,Result.andThen]
    have:=key fs.toList (fun f hf=>by
     have:=(Array.all_eq_true' ..|>.1 hall) f (by simpa using hf)
     simpa using this)
    simp only[bind_pure_comp]at this
    simp[this,Result.andThen]
    rw[<-List.map_toArray]
   simp only[Instr.build,Sem.run_bind,hzero,Result.andThen,run_underlying hu,hpl]
   simp only[Array.toList_map]
   have e:(fun i:Nat=>(fs.map fun(f:Field)=>(f.offset,P.cellsOf f.type))[i]?)=(fun i:Nat=>(fs[i]?).map fun(f:Field)=>(f.offset,P.cellsOf f.type)):=by
    funext i;simp
   rw[e,hf]
   rfl
  ·rename_i n e hu
   split at hq
   case isFalse=>cases hq
   rename_i he
   obtain⟨ps,hps,rfl⟩:=Option.map_eq_some_iff.1 hq
   simp only[execOp,hop,PM.val]
   refine fin_v ?_
   have hf:=fill_run z.cells hps htr hpre
   simp only[Instr.build,Sem.run_bind,hzero,Result.andThen,run_underlying hu,sizeOf_run' P e he]
   simp only[Array.toList_map]
   rw[hf]
   rfl
  ·cases hq
 ·-- slice with a third bound
  rename_i t x lo hi mx hop
  obtain⟨a,ha,hq⟩:=Option.bind_eq_some_iff.1 hq
  obtain⟨l,hl,hq⟩:=Option.bind_eq_some_iff.1 hq
  obtain⟨h,hh,hq⟩:=Option.bind_eq_some_iff.1 hq
  obtain⟨m,hm,hq⟩:=Option.bind_eq_some_iff.1 hq
  have el:=trO_spec hl htr
  split at hq
  case h_2=>cases hq
  rename_i e hu
  split at hq
  case isFalse=>cases hq
  rename_i he
  cases hq
  obtain⟨h1,h2,h3,h4,h5,h6,h7,h8⟩:=hpre
  have hp:=isSl_spec h1
  simp only[execOp,hop,htr _ _ ha,el,Option.map_some,htr _ _ hh,htr _ _ hm,PM.val]
  refine fin_v ?_
  generalize r a=v at*
  generalize adrV v=ad at*;generalize lenV v=ln at*;generalize capV v=cp at*
  subst hp
  simp only[Instr.sliceAt,Instr.slice,Sem.run_bind,run_underlying hu,Result.andThen,Sem.run_pure]
  rw[bounds3_run h2 h3 h4 h5 h6 h7 h8]
  simp only[sizeOf_run' P e he,slmV]
 ·-- bytes to a string
  rename_i s t x hop
  obtain⟨a,ha,hq⟩:=Option.bind_eq_some_iff.1 hq
  split at hq
  case h_2=>cases hq
  rename_i e hs ht
  split at hq
  case isFalse=>cases hq
  rename_i he
  cases hq
  unfold u8T at he
  split at he
  case h_2=>cases he
  rename_i hu8
  simp only[execOp,hop,htr _ _ ha,PM.val]
  exact fin_v (b2s_run hs ht hu8 hpre)
 ·-- a closure
  rename_i g fs cs hop
  obtain⟨a,ha,hq⟩:=Option.bind_eq_some_iff.1 hq
  obtain⟨b,hb,rfl⟩:=Option.map_eq_some_iff.1 hq
  have ea:=trLs_spec ha htr
  have eb:=trLs_spec hb htr
  simp only[execOp,hop,PM.val]
  refine fin_v ?_
  have e1:fs.map ρ=(a.map r).toArray:=by apply Array.ext';rw[Array.toList_map];exact ea
  have e2:cs.map ρ=(b.map r).toArray:=by apply Array.ext';rw[Array.toList_map];exact eb
  rw[e1,e2]
  rfl
 ·-- lookup
  rename_i t x i ok hop
  obtain⟨a,ha,hq⟩:=Option.bind_eq_some_iff.1 hq
  obtain⟨b,hb,hq⟩:=Option.bind_eq_some_iff.1 hq
  split at hq
  case h_2=>cases hq
  rename_i k e hu
  split at hq
  case h_3=>cases hq
  ·rename_i z hk hz
   cases hq
   obtain⟨h1,es,h2,h3⟩:=hpre
   simp only[execOp,hop,htr _ _ ha,htr _ _ hb,PM.val,h2,Option.getD_some]
   exact fin_v (lookup_run hu hk hz h2 h3 h1)
  ·rename_i kk z hk hz
   split at hq
   ·cases hq
   ·rename_i hok
    cases hq
    have hok:ok=false:=by simpa using hok
    obtain⟨h1,es,h2,h3⟩:=hpre
    simp only[execOp,hop,htr _ _ ha,htr _ _ hb,PM.val,h2,Option.getD_some,hok]
    exact fin_v (lookupI_run hu hk hz h2 h3 h1)
 ·-- interface
  rename_i t x hop
  obtain⟨a,ha,hq⟩:=Option.bind_eq_some_iff.1 hq
  split at hq
  ·cases hq
  ·rename_i d hd hu
   cases hq
   simp only[execOp,hop,htr _ _ ha,PM.val]
   refine fin_v ?_
   unfold Instr.makeInterface
   simp only[Sem.run_bind,run_underlying hu,Result.andThen]
   cases d<;>first|rfl|exact absurd rfl (hd _)
  ·cases hq
 ·-- type assertion
  rename_i x xt t hop
  obtain⟨a,ha,hq⟩:=Option.bind_eq_some_iff.1 hq
  split at hq
  ·cases hq
  ·rename_i d hd hu
   cases hq
   simp only[execOp,hop,htr _ _ ha,PM.val]
   refine fin_v ?_
   have hpre:isIf t (r a):=hpre
   unfold isIf at hpre
   split at hpre
   case h_2=>exact hpre.elim
   rename_i u v hv
   subst hpre
   rw[hv]
   unfold Instr.typeAssert
   simp only[Sem.run_bind,run_underlying hu,Result.andThen]
   cases d<;>first|(simp[ifV,Sem.run_pure];done)|exact absurd rfl (hd _)
  ·cases hq
 ·cases hq
end
end Go.Mg
