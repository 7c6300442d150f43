/- Lemmas of ours. No conditions. -/
import Derived.RangeFuncCalls
import Derived.OrdersIn
import Derived.Test.YteeemadonfcliaaGreatDoorMgEl
set_option linter.all false
namespace Go.Mg
open Go Go.RowKit
def fe (ro:Option Nat):Fence:={Fence.wide with round:=ro}
theorem lj (ro:Option Nat):(fe ro).depth.isSome=true->1<=0:=fun h=>by cases h
variable {P:Program} {ro:Option Nat} {m n l id p i:Nat} {args:Array Value} {w:World} {o ao:Oper} {a:Act} {next:Act->World->Prop} {Q:Exit->Act->World->Prop} {D:List Deferred} {L:List Nat}
theorem wD {f:FuncId} {R:Ending->World->Prop} (h:Calls P f args w R):CallsIn (fe ro) m P f args w R:=
 (callsIn_wide (n:=m)).2 h
theorem JM {row:String} {R:Value->World->Prop} (h:Rows P row args w R):RowsIn (fe ro) m P row args w R:=
 fun c cs _=>let⟨v,w',r,s⟩:=h c cs;⟨v,w',r,stepsIn_wide.2 s⟩
def lp (o:Oper):Bool:=match o.op with|.defer _=>false|_=>true
theorem oW (h:lp o=true):∀c,o.op≠.defer c:=fun c hc=>by simp[lp,hc]at h
theorem CN {r:Result Next} (ro:Option Nat) (h:o.upon P a next Q r):o.uponIn (fe ro) 0 P a next Q r:=by
 cases r with
 |ok x w'=>
  cases x<;>simp only[Oper.upon,Oper.uponIn]at h⊢<;>
   first
    |exact h
    |exact⟨lj ro,wD h⟩
    |exact⟨lj ro,JM h⟩
    |exact h.elim
 |halt x w'=>cases x<;>simp only[Oper.upon,Oper.uponIn]at h⊢<;>first|exact h|exact h.elim
theorem nN (ro:Option Nat) (hd:lp o=true) (h:o.wp P a w next Q):o.wpIn (fe ro) 0 P a w next Q:=by
 refine⟨fun _ _=>trivial,?_⟩;have e:o.semAt (fe ro).round a.eval=execOp a.eval o:=Oper.semAt_eq _ _ _ (oW hd);rw[e];exact CN ro h
theorem iW {P:Program} {ops:Array Oper} {Q:Exit->Act->World->Prop} (ro:Option Nat) (hQ:¬LetsOut Q):∀(l:List Oper) (a:Act) (w:World),l.all lp=true->wpList P ops Q l a w->wpListIn (fe ro) 0 P ops Q l a w
 |[],_,_,_,h=>h
 |o::l,a,w,hd,h=>by
  simp only[List.all_cons,Bool.and_eq_true]at hd;unfold wpList at h;unfold wpListIn
  split
  ·rename_i hw;rw[if_pos hw]at h;rcases h with h|h
   ·exact Oper.wpIn_mono (fun a w h=>iW ro hQ l a w hd.2 h) (nN ro hd.1 h)
   ·exact absurd h.2 hQ
  ·rename_i hw;rw[if_neg hw]at h;exact⟨fun _ _=>trivial,iW ro hQ l _ w hd.2 h⟩
theorem ic {P:Program} {md:Region.Mode} {ops:Array Oper} {Q:Exit->Act->World->Prop} (ro:Option Nat) (hQ:¬LetsOut Q) (hd:ops.all lp=true):∀(k:Nat) (listed:Array Bool) (a:Act) (w:World),wpAny P md ops Q k listed a w->wpAnyIn (fe ro) 0 P md ops Q k listed a w
 |0,_,_,_,h=>h
 |k+1,listed,a,w,h=>by
  refine⟨h.1,fun i hi=>?_⟩;have h2:=h.2 i hi;unfold wpOp at h2;unfold wpOpIn
  split at h2
  ·rename_i ho;simp only[ho];exact ic ro hQ hd k _ _ _ h2
  ·rename_i o ho;simp only[ho];have hdo:lp o=true:=by
    obtain⟨hlt,he⟩:=Array.getElem?_eq_some_iff.1 ho;have:=Array.all_eq_true.1 hd i hlt
    rwa [he]at this
   split
   ·rename_i hw;rw[if_pos hw]at h2;rcases h2 with h2|h2
    ·exact Oper.wpIn_mono (fun a w h=>ic ro hQ hd k _ a w h) (nN ro hdo h2)
    ·exact absurd h2.2 hQ
   ·rename_i hw;rw[if_neg hw]at h2;exact⟨fun _ _=>trivial,ic ro hQ hd k _ _ _ h2⟩
theorem jE {w0:World} {Q:Ex->Fr->Hp->Prop}:¬LetsOut (oC D L n w0 Q):=by
 rintro⟨a,w,e',f,he,_⟩
 cases e'<;>cases he
def eI (P:Program) (L:List Nat) (n:Nat):Code->Option S
 |.skip=>some .skip
 |.region _ ops draw=>
  if ops.all lp then
   if draw then(if Region.noSelect ops then(NA (fun o=>Mi ops||AK ops o) P L n ops ops.size (Array.replicate ops.size false) []).map .dr else none)
   else(iv P L n ops ops.toList []).map .reg
  else none
 |.seq a b=>(eI P L n a).bind fun x=>(eI P L n b).map (.seq x ·)
 |.cond c a b=>(xN L [] c).bind fun c=>(eI P L n a).bind fun x=>(eI P L n b).map (.ite c x ·)
 |.block id c=>(eI P L n c).map (.blk id ·)
 |.exit id=>some (.exit id)
 |.ret=>some .ret
 |_=>none
theorem CO (hmix:P.follows .mixedOrders=true) (ro:Option Nat):∀(c:Code) (s:S),eI P L n c=some s->∀(Q:Ex->Fr->Hp->Prop) (f:Fr) (a:Act) (w:World),vc P s Q f w.heap->Rel D L n a f→
  c.wpIn (fe ro) 0 P (oC D L n w Q) a w:=by
 intro c
 induction c with
 |skip=>
  intro s hs Q f a w h hr
  cases hs
  exact wpIn_skip ⟨.n,f,rfl,h,hr,aW.refl w⟩
 |region id all draw=>
  intro s hs Q f a w h hr;simp only[eI]at hs
  split at hs
  case isFalse=>cases hs
  rename_i hd;have sr:gd D L n [] [] a f:=⟨hr,fun t _ h=>by simp at h⟩
  cases draw with
  |false=>
   simp only[Bool.false_eq_true,if_false]at hs;obtain⟨l,hl,rfl⟩:=Option.map_eq_some_iff.1 hs;refine wpIn_region_list (iW ro jE _ _ _ (by simpa using hd) ?_);exact lT (w0:=w) (Q:=Q .n) (fun f' a' w' hq ct bO=>⟨.n,f',rfl,hq,ct,bO⟩) _ _ _ _ _ _ _ hl sr (aW.refl w) h
  |true=>
   simp only[if_true]at hs
   split at hs
   case isFalse=>cases hs
   rename_i hsel;obtain⟨t,ht,rfl⟩:=Option.map_eq_some_iff.1 hs;obtain⟨C,hC,h⟩:=h;refine wpIn_region_any hmix (ic ro jE hd _ _ _ _ (wpAny_of_held (S:=fun w'=>C w'.heap/\aW w w') _ _ _ _ ?_));exact ru hsel (w0:=w) (Q:=Q .n) (fun f' a' w' hq ct bO=>⟨.n,f',rfl,hq,ct,bO⟩) (fun c a' w' ⟨e',_,he,_⟩=>by cases e'<;>cases he) _ _ _ _ _ _ _ _ _ ht sr hC (jh w) h
 |seq x y ihx ihy=>
  intro s hs Q f a w h hr;simp only[eI]at hs;obtain⟨sx,hx,hs⟩:=Option.bind_eq_some_iff.1 hs;obtain⟨sy,hy,rfl⟩:=Option.map_eq_some_iff.1 hs;refine wpIn_seq (wpIn_mono (ihx sx hx _ f a w h hr) ?_);rintro e a' w' ⟨e',f',rfl,hq,ct,bO⟩
  cases e' with
  |n=>exact wpIn_mono (ihy sy hy _ f' a' w' hq ct) fun _ _ _ h=>jM bO h
  |x id=>exact⟨.x id,f',rfl,hq,ct,bO⟩
  |r=>exact⟨.r,f',rfl,hq,ct,bO⟩
 |cond c x y ihx ihy=>
  intro s hs Q f a w h hr;simp only[eI]at hs;obtain⟨c',hc,hs⟩:=Option.bind_eq_some_iff.1 hs;obtain⟨sx,hx,hs⟩:=Option.bind_eq_some_iff.1 hs;obtain⟨sy,hy,rfl⟩:=Option.map_eq_some_iff.1 hs;have sr:gd D L n [] [] a f:=⟨hr,fun t _ h=>by simp at h⟩
  obtain⟨hb,h1,h2⟩:=h;have he:=(sr.rd _ _ hc).trans (dZ hb);exact wpIn_cond_split he (fun ht=>ihx sx hx _ f a w (h1 ht) hr) (fun ht=>ihy sy hy _ f a w (h2 ht) hr)
 |block id c ih=>
  intro s hs Q f a w h hr;simp only[eI]at hs;obtain⟨sx,hx,rfl⟩:=Option.map_eq_some_iff.1 hs;refine wpIn_block (wpIn_mono (ih sx hx _ f a w h hr) ?_);rintro e a' w' ⟨e',f',rfl,hq,ct,bO⟩
  cases e' with
  |n=>exact⟨.n,f',rfl,hq,ct,bO⟩
  |x i=>
   simp only[oz]at hq;simp only[Ex.to,Exit.inBlock]
   split
   ·rename_i hi;rw[if_pos hi]at hq;exact⟨.n,f',rfl,hq,ct,bO⟩
   ·rename_i hi;rw[if_neg hi]at hq;exact⟨.x i,f',rfl,hq,ct,bO⟩
  |r=>exact⟨.r,f',rfl,hq,ct,bO⟩
 |exit id=>
  intro s hs Q f a w h hr
  cases hs
  exact wpIn_exit ⟨.x id,f,rfl,h,hr,aW.refl w⟩
 |ret=>
  intro s hs Q f a w h hr
  cases hs
  exact wpIn_ret ⟨.r,f,rfl,h,hr,aW.refl w⟩
 |_=>intro s hs;cases hs
def El (v:Value):List Deferred:=(mW v).map fun m=>{target:=.collected m,args:=#[]}
theorem lq (v:Value) (d:Nat):mW (nr v d)=d::mW v:=by
 simp[mW,nr,Value.i,Function.comp_def]
theorem Fy (v:Value) (d:Nat):El (nr v d)={target:=.collected d,args:=#[]}::El v:=by
 unfold El;rw[lq];rfl
def Ex.code:Ex->Option Code
 |.n=>none
 |.x id=>some (.exit id)
 |.r=>some .ret
theorem fF.put {o:Obj}:fF l w.heap (w.putObj l o).heap:=⟨World.putObj_size,fun _ hk=>World.putObj_heap_other hk⟩
theorem fF.ag {H H':Hp} (h:fF l H H'):af (fun k=>k=l) H H':=⟨Nat.le_of_eq h.1.symm,fun k _ hk=>h.2 k hk⟩
theorem er (w:World) (l:Nat) (o:Obj):aW w (w.putObj l o):=⟨rfl,rfl,rfl⟩
theorem oY (ts:Array Value) (p:Nat) (hp:p<ts.size) (x:Value) (t:Nat):(ts.setIfInBounds p x).getD t undef=if t=p then x else ts.getD t undef:=by
 simp only[Array.getD_eq_getD_getElem?,Array.getElem?_setIfInBounds]
 by_cases h:t=p
 ·subst h;simp[hp]
 ·rw[if_neg (fun e=>h e.symm),if_neg h]
theorem CP (ha:ao.op=.assign (.tmp p)) (had:ao.dst=some i) (hag:ao.guard=none) {K:Act->World->Prop}
  (h:K (a.put (some i) (a.eval (.tmp p))) w):(Code.region id #[ao] false).wpIn (fe ro) 0 P (Exit.then K (fun _ _ _=>False)) a w:=by
 refine wpIn_region_list ?_;unfold wpListIn
 show if Region.wanted ao (yielded #[ao] a.tmps)=true then _ else _
 rw[if_pos (by simp[Region.wanted,hag])];refine⟨fun _ _=>trivial,?_⟩;rw[Oper.semAt_eq _ _ _ (fun c hc=>by rw[ha]at hc;cases hc)];simp only[execOp,ha,Sem.run_pure,Oper.uponIn_value,had];exact h
theorem Fz (hmix:P.follows .mixedOrders=true) {gO:Operand} {ga:A} {body:Code} {sb:S} {g:Nat}
  (hg:xN L [] gO=some ga) (hp:L.contains p=true) (hi:L.contains i=true) (hin:i<n) (hpn:p<n) (ha:ao.op=.assign (.tmp p)) (had:ao.dst=some i) (hag:ao.guard=none) (hb:eI P L n body=some sb)
  {Q:Ex->Fr->Hp->Prop} {f:Fr} (hgn:L.contains g=false) (h:vc P (.rf g ga p i sb) Q f w.heap) (hr:Rel D L n a f):
  (Code.rangeFunc gO #[p] (.region id #[ao] false) body).wpIn (fe none) 0 P (fun e a' w'=>∃e' f',e=e'.to/\Q e' f' w'.heap/\Rel ({target:=.collected w.heap.size,args:=#[]}::D) L n a' f'/\aW w w'/\f'=bN f g (nr (f g) w.heap.size)) a w:=by
 obtain⟨gf,lb,xs,G,J,X,⟨hv,hbo,hit⟩,hG,h0,⟨hst,hsx⟩,hrd,hdone,hleft⟩:=h;have sr:gd D L n [] [] a f:=⟨hr,fun t _ h=>by simp at h⟩
 have hev:a.eval gO=.func (.func gf) #[] lb:=(sr.rd _ _ hg).trans hv;refine wpIn_rangeFunc ?_;intro fn _;obtain⟨rec,hrec⟩:∃rec:LoopState->Option Code->Loop,rec=fun st pe=>{state:=st,pending:=pe,fn,tmps:=a.tmps,params:=#[p],assign:=.region id #[ao] false,body,defers:=w.heap.size}:=⟨_,rfl⟩
 obtain⟨W1,QX⟩:∃W1,(w.alloc (.deferred (some []))).alloc (.loop (rec .ready none))=W1:=⟨_,rfl⟩
 have hs1:aW w W1:=by rw[<-QX];exact⟨rfl,rfl,rfl⟩
 have CQ:W1.heap[w.heap.size+1]?=some (.loop (rec .ready none)):=by
  rw[<-QX];have:=World.alloc_heap_new (w.alloc (.deferred (some []))) (.loop (rec .ready none));rwa [World.size_alloc]at this
 have hJ1:J 0 W1.heap:=by
  refine h0 _ (by rw[<-QX];simp) (fun k hk=>?_) ?_
  ·rw[<-QX]
   show((w.heap.push _).push _)[k]?=_
   rw[Array.getElem?_push,if_neg (by simp;omega),Array.getElem?_push,if_neg (by omega)]
  ·rw[<-QX]
   show((w.heap.push _).push _)[w.heap.size]?=_
   rw[Array.getElem?_push,if_neg (by simp),Array.getElem?_push,if_pos rfl]
 refine⟨w.heap.size+1,[{target:=.collected w.heap.size,args:=#[]}],W1,{target:=.fn (.func gf) lb,args:=#[.func (.yield (w.heap.size+1)) #[] #[]]},W1,gf,
  #[.func (.yield (w.heap.size+1)) #[] #[]]++lb,W1,?_,?_,fun _ _=>trivial,?_,lj none,?_⟩
 ·rw[<-QX,hrec];exact run_enterLoop_outer _ _ _ _ _
 ·simp only[resolve,hev];simp[go_sem]
 ·simp only[invoke,go_sem];exact oB hbo
 ·refine(wD (ro:=none) (hit (w.heap.size+1) (fun k H=>J k H/\H[w.heap.size+1]?=some (.loop (rec .ready none)))
   (fun H=>∃e:Ex,e≠.n/\X e H/\H[w.heap.size+1]?=some (.loop (rec .done e.code))) ?_ (fun k H h=>hG k H h.1) _ ⟨hJ1,CQ⟩ W1 rfl)).mono ?_
  ·-- one round
   rintro k H hk ⟨hj,hl⟩ W rfl;generalize hx:xs.getD k undef=x;have hlt:w.heap.size+1<W.heap.size:=(Array.getElem?_eq_some_iff.1 hl).1;have hy:(Instr.yield (w.heap.size+1) #[x]).run P W=.ok (.round (w.heap.size+1) fn (a.tmps.setIfInBounds p x) (.region id #[ao] false) body) W:=by
    have:=run_yield (P:=P) (args:=#[x]) hl (by rw[hrec];rfl);rw[hrec]at this;simpa using this
   refine⟨fn,_,_,_,hy,?_⟩;refine roundIn_of_wpIn (F:=Fence.wide) (n:=0) trivial ?_;have hfe:Fence.wide.inRound (w.heap.size+1)=fe (some (w.heap.size+1)):=rfl;rw[hfe];have hrp:Rel [] L n {tmps:=a.tmps.setIfInBounds p x,defers:=[]} (bN f p x):=by
    refine⟨rfl,by simp[hr.s],fun t ht=>?_⟩;simp only[bN];rw[oY _ _ (by rw[hr.s];exact hpn)]
    split
    ·rfl
    ·exact hr.l t ht
   have hxe:(({tmps:=a.tmps.setIfInBounds p x,defers:=[]}:Act).eval (.tmp p))=x:=by
    show(a.tmps.setIfInBounds p x).getD p undef=x
    rw[oY _ _ (by rw[hr.s];exact hpn),if_pos rfl]
   refine CP ha had hag ?_;rw[hxe];refine⟨W.putObj (w.heap.size+1) (.loop {rec .ready none with state:=.busy}),run_beginRound hl (by rw[hrec]),?_⟩;have mX:(W.putObj (w.heap.size+1) (.loop {rec .ready none with state:=.busy})).heap[w.heap.size+1]?=some (.loop {rec .ready none with state:=.busy}):=World.putObj_heap_same hlt;have qS:=hst _ _ _ hj (fF.put (w:=W) (o:=.loop {rec .ready none with state:=.busy}));have Ox:=hrd k _ hk qS;rw[hx]at Ox;generalize hW2:W.putObj (w.heap.size+1) (.loop {rec .ready none with state:=.busy})=W2 at mX qS Ox⊢;have hs2:aW W W2:=by rw[<-hW2];exact er _ _ _
   have hri:Rel [] L n (({tmps:=a.tmps.setIfInBounds p x,defers:=[]}:Act).put (some i) x) (bN (bN f p x) i x):=by
    refine⟨rfl,by simp[Act.put,hr.s],fun t ht=>?_⟩;rw[vS _ _ (by rw[hrp.s];exact hin)];simp only[bN]
    split
    ·rfl
    ·exact hrp.l t ht
   refine wpIn_mono (n:=0) (CO hmix (some (w.heap.size+1)) body sb hb _ _ _ W2 Ox hri) ?_;rintro e a3 W3 ⟨e',f3,rfl,⟨hk3,W5⟩,_,I9⟩;have Oy:W3.heap[w.heap.size+1]?=some (.loop {rec .ready none with state:=.busy}):=hk3.trans mX;have fin:∀jump:Option Code,(Instr.endRound (w.heap.size+1) jump).run P W3=.ok (.bool jump.isNone) (W3.putObj (w.heap.size+1) (.loop (rec (if jump.isNone then .ready else .done) jump)))∧
     (W3.putObj (w.heap.size+1) (.loop (rec (if jump.isNone then .ready else .done) jump))).heap[w.heap.size+1]?=some (.loop (rec (if jump.isNone then .ready else .done) jump)):=fun jump=>by
    have:=run_endRound (P:=P) jump Oy;rw[hrec]at this⊢;exact⟨this,World.putObj_heap_same (Array.getElem?_eq_some_iff.1 Oy).1⟩
   have hss:aW W W3:=hs2.trans I9
   cases e' with
   |n=>
    obtain⟨h1,h2⟩:=fin none;exact⟨_,_,h1,_,rfl,.inl ⟨rfl,hst _ _ _ W5 fF.put,h2⟩,hss.trans (er _ _ _)⟩
   |x id=>
    obtain⟨h1,h2⟩:=fin (some (.exit id));exact⟨_,_,h1,_,rfl,.inr ⟨rfl,.x id,by simp,hsx _ _ _ W5 fF.put,h2⟩,hss.trans (er _ _ _)⟩
   |r=>
    obtain⟨h1,h2⟩:=fin (some .ret);exact⟨_,_,h1,_,rfl,.inr ⟨rfl,.r,by simp,hsx _ _ _ W5 fF.put,h2⟩,hss.trans (er _ _ _)⟩
  ·rintro e W2 ⟨v,rfl,hs2,hJ⟩;have Oz:Rel ({target:=.collected w.heap.size,args:=#[]}::D) L n {a with defers:=[{target:=.collected w.heap.size,args:=#[]}]++a.defers} (bN f g (nr (f g) w.heap.size)):=by
    refine⟨by simp[hr.d],hr.s,fun t ht=>?_⟩;have:t≠g:=fun e=>by subst e;rw[hgn]at ht;cases ht
    simp only[bN,if_neg this];exact hr.l t ht
   rcases hJ with⟨hj,hl⟩|⟨e',hne,hx,hl⟩
   ·refine⟨none,_,by have:=run_endLoop (P:=P) hl (by rw[hrec];simp);rw[hrec]at this;exact this,?_⟩;exact⟨.n,_,rfl,hdone _ (hst _ _ _ hj fF.put),Oz,(hs1.trans hs2).trans (er _ _ _),rfl⟩
   ·refine⟨e'.code,_,by have:=run_endLoop (P:=P) hl (by rw[hrec];simp);rw[hrec]at this;exact this,?_⟩;have hq:=fun o=>hleft e' _ (hsx _ _ _ hx (fF.put (w:=W2) (o:=o)))
    cases e' with
    |n=>exact absurd rfl hne
    |x id=>exact wpIn_exit ⟨.x id,_,rfl,hq _,Oz,(hs1.trans hs2).trans (er _ _ _),rfl⟩
    |r=>exact wpIn_ret ⟨.r,_,rfl,hq _,Oz,(hs1.trans hs2).trans (er _ _ _),rfl⟩
end Go.Mg
namespace Go.Mg
open Go Go.RowKit
def tA:Code->Option (Oper×Nat×Nat)
 |.region _ ops false=>match ops.toList with
  |[ao]=>match ao.op,ao.dst,ao.guard with
   |.assign (.tmp p),some i,none=>some (ao,p,i)
   |_,_,_=>none
  |_=>none
 |_=>none
def cY (P:Program) (L:List Nat) (n g:Nat):Code->Option S
 |.seq a b=>(cY P L n g a).bind fun x=>(cY P L n g b).map (.seq x ·)
 |.cond c a b=>(xN L [] c).bind fun c=>(cY P L n g a).bind fun x=>(cY P L n g b).map (.ite c x ·)
 |.block id c=>(cY P L n g c).map (.blk id ·)
 |.loop c=>(cY P L n g c).map .loop
 |.rangeFunc gO ps I3 body=>match ps.toList with
  |[p]=>(tA I3).bind fun q=>if q.2.1=p/\q.2.2<n/\p<n/\L.contains p=true/\L.contains q.2.2=true/\L.contains g=false then
    (xN L [] gO).bind fun ga=>(eI P L n body).map fun sb=>.rf g ga p q.2.2 sb
   else none
  |_=>none
 |.skip=>some .skip
 |.exit id=>some (.exit id)
 |.ret=>some .ret
 |c=>(trans P L n c).bind fun s=>if s.wr.contains g then none else some s
def Bo (L:List Nat) (n g:Nat) (w0:World) (Q:Ex->Fr->Hp->Prop):Exit->Act->World->Prop:=fun e a w=>∃e' f,e=e'.to/\Q e' f w.heap/\Rel (El (f g)) L n a f/\aW w0 w
variable {L:List Nat} {n g np:Nat} {P:Program} {k:FuncId} {fn:Func} {s:S} {rs:List RV}
theorem yB {w0 w1:World} {Q:Ex->Fr->Hp->Prop} (hs:aW w0 w1) {e:Exit} {a:Act} {w:World} (h:Bo L n g w1 Q e a w):Bo L n g w0 Q e a w:=
 let⟨e',f,h1,h2,h3,h4⟩:=h;⟨e',f,h1,h2,h3,hs.trans h4⟩
theorem tB {c:Code} {q:Oper×Nat×Nat} (h:tA c=some q):∃id,c=.region id #[q.1] false/\q.1.op=.assign (.tmp q.2.1)/\q.1.dst=some q.2.2/\q.1.guard=none:=by
 unfold tA at h
 split at h
 case h_2=>cases h
 rename_i id ops
 split at h
 case h_2=>cases h
 rename_i ao hao
 split at h
 case h_2=>cases h
 rename_i p i h1 h2 h3
 cases h
 refine⟨id,?_,h1,h2,h3⟩
 congr 1
 apply Array.ext';exact hao
theorem CR (hmix:P.follows .mixedOrders=true):∀(c:Code) (s:S),cY P L n g c=some s->∀(Q:Ex->Fr->Hp->Prop) (f:Fr) (a:Act) (w:World),vc P s Q f w.heap->Rel (El (f g)) L n a f→
  c.wp P (Bo L n g w Q) a w:=by
 have leaf:∀(c:Code) (s:S),((trans P L n c).bind fun s=>if s.wr.contains g then none else some s)=some s->∀(Q:Ex->Fr->Hp->Prop) (f:Fr) (a:Act) (w:World),vc P s Q f w.heap->Rel (El (f g)) L n a f→
   c.wp P (Bo L n g w Q) a w:=by
  intro c s hs Q f a w h hr;obtain⟨s',ht,hs⟩:=Option.bind_eq_some_iff.1 hs
  split at hs
  case isTrue=>cases hs
  rename_i hn
  cases hs
  have h2:=dS s f w.heap Q (fun e f' H'=>Q e f' H'/\f' g=f g) (fun e f' H' q k=>⟨q,k g (by simpa using hn)⟩) h;refine wp_mono (vU hmix c s ht _ f a w h2 hr) ?_;rintro e a' w' ⟨e',f',rfl,⟨hq,hg⟩,ct,bO⟩;exact⟨e',f',rfl,hq,by rw[hg];exact ct,bO⟩
 intro c
 induction c with
 |skip=>
  intro s hs Q f a w h hr
  cases hs
  exact wp_skip ⟨.n,f,rfl,h,hr,aW.refl w⟩
 |exit id=>
  intro s hs Q f a w h hr
  cases hs
  exact wp_exit ⟨.x id,f,rfl,h,hr,aW.refl w⟩
 |ret=>
  intro s hs Q f a w h hr
  cases hs
  exact wp_ret ⟨.r,f,rfl,h,hr,aW.refl w⟩
 |seq x y ihx ihy=>
  intro s hs Q f a w h hr;simp only[cY]at hs;obtain⟨sx,hx,hs⟩:=Option.bind_eq_some_iff.1 hs;obtain⟨sy,hy,rfl⟩:=Option.map_eq_some_iff.1 hs;refine wp_seq (wp_mono (ihx sx hx _ f a w h hr) ?_);rintro e a' w' ⟨e',f',rfl,hq,ct,bO⟩
  cases e' with
  |n=>exact wp_mono (ihy sy hy _ f' a' w' hq ct) fun _ _ _ h=>yB bO h
  |x id=>exact⟨.x id,f',rfl,hq,ct,bO⟩
  |r=>exact⟨.r,f',rfl,hq,ct,bO⟩
 |cond c x y ihx ihy=>
  intro s hs Q f a w h hr;simp only[cY]at hs;obtain⟨c',hc,hs⟩:=Option.bind_eq_some_iff.1 hs;obtain⟨sx,hx,hs⟩:=Option.bind_eq_some_iff.1 hs;obtain⟨sy,hy,rfl⟩:=Option.map_eq_some_iff.1 hs;have sr:gd (El (f g)) L n [] [] a f:=⟨hr,fun t _ h=>by simp at h⟩
  obtain⟨hb,h1,h2⟩:=h;have he:=(sr.rd _ _ hc).trans (dZ hb);exact wp_cond_split he (fun ht=>ihx sx hx _ f a w (h1 ht) hr) (fun ht=>ihy sy hy _ f a w (h2 ht) hr)
 |block id c ih=>
  intro s hs Q f a w h hr;simp only[cY]at hs;obtain⟨sx,hx,rfl⟩:=Option.map_eq_some_iff.1 hs;refine wp_block (wp_mono (ih sx hx _ f a w h hr) ?_);rintro e a' w' ⟨e',f',rfl,hq,ct,bO⟩
  cases e' with
  |n=>exact⟨.n,f',rfl,hq,ct,bO⟩
  |x i=>
   simp only[oz]at hq;simp only[Ex.to,Exit.inBlock]
   split
   ·rename_i hi;rw[if_pos hi]at hq;exact⟨.n,f',rfl,hq,ct,bO⟩
   ·rename_i hi;rw[if_neg hi]at hq;exact⟨.x i,f',rfl,hq,ct,bO⟩
  |r=>exact⟨.r,f',rfl,hq,ct,bO⟩
 |loop c ih=>
  intro s hs Q f a w h hr;simp only[cY]at hs;obtain⟨sx,hx,rfl⟩:=Option.map_eq_some_iff.1 hs;obtain⟨I,⟨m,h0⟩,hround⟩:=h;refine wp_loop_ghost (fun k a' w'=>∃f',I k f' w'.heap/\Rel (El (f' g)) L n a' f'/\aW w w') m ⟨f,h0,hr,aW.refl w⟩ ?_;rintro k a1 w1 ⟨f1,hI,RG,hs1⟩;refine wp_mono (ih sx hx _ f1 a1 w1 (hround k f1 w1.heap hI) RG) ?_;rintro e a' w' ⟨e',f',rfl,hq,ct,bO⟩
  cases e' with
  |n=>
   obtain⟨m',hm,Mm⟩:=hq;exact⟨m',hm,f',Mm,ct,hs1.trans bO⟩
  |x i=>exact⟨.x i,f',rfl,hq,ct,hs1.trans bO⟩
  |r=>exact⟨.r,f',rfl,hq,ct,hs1.trans bO⟩
 |rangeFunc gO ps I3 body iha ihb=>
  intro s hs Q f a w h hr;simp only[cY]at hs
  split at hs
  case h_2=>cases hs
  rename_i p AF;obtain⟨q,hq,hs⟩:=Option.bind_eq_some_iff.1 hs
  split at hs
  case isFalse=>cases hs
  rename_i hc;obtain⟨rfl,h1,h2,h3,h4,h5⟩:=hc;obtain⟨ga,hga,hs⟩:=Option.bind_eq_some_iff.1 hs;obtain⟨sb,AM,rfl⟩:=Option.map_eq_some_iff.1 hs;obtain⟨id,rfl,g1,g2,g3⟩:=tB hq;have hpe:ps=#[q.2.1]:=by apply Array.ext';exact AF
  subst hpe;refine wp_mono (wpIn_wide.1 (Fz (n:=n) (Q:=Q) (f:=f) hmix hga h3 h4 h1 h2 g1 g2 g3 AM h5 h hr)) ?_;rintro e a' w' ⟨e',f',rfl,iJ,ct,bO,rfl⟩;refine⟨e',_,rfl,iJ,?_,bO⟩;have:El (bN f g (nr (f g) w.heap.size) g)={target:=.collected w.heap.size,args:=#[]}::El (f g):=by
   simp only[bN,if_true,Fy]
  rw[this];exact ct
 |region id ops draw=>exact leaf _
 |_=>intro s hs;simp[cY,trans]at hs
def oZ (g:Nat) (rs:List RV) (R:Value->Hp->Prop):Ex->Fr->Hp->Prop
 |.x _,_,_=>False
 |_,f,H=>(mW (f g)).Nodup/\(∀m∈mW (f g),H[m]?=some (.deferred (some [])))∧
  ∀H':Hp,H'.size=H.size->(∀k,k∉mW (f g)->H'[k]?=H[k]?)->cU f H' rs/\R (cV f H' rs) H'
def Bq (P:Program) (fn:Func):Option (S×List RV):=
 fn.body.bind fun c=>(cY P (ry fn) fn.ntmps fn.ntmps c).bind fun s=>(fn.results.toList.mapM (Iy P (ry fn))).map fun rs=>(s,rs)
structure iz (P:Program) (k:FuncId) (s:S) (rs:List RV) (np g:Nat):Prop where
 ok:∃fn c L,P.funcs[k]?=some fn/\fn.body=some c/\cY P L fn.ntmps g c=some s/\fn.results.toList.mapM (Iy P L)=some rs/\np<=fn.ntmps/\g=fn.ntmps
 mix:P.follows .mixedOrders=true
 body:bF P k=true
theorem iz.mk' (hf:P.funcs[k]?=some fn) (hm:P.follows .mixedOrders=true) (hc:Bq P fn=some (s,rs)) (hn:(decide (np<=fn.ntmps)&&decide (g=fn.ntmps))=true)
  (hb:(fn.name== "runtime.NumGoroutine")=false):iz P k s rs np g:=by
 unfold Bq at hc;obtain⟨c,h1,hc⟩:=Option.bind_eq_some_iff.1 hc;obtain⟨s',h2,hc⟩:=Option.bind_eq_some_iff.1 hc;obtain⟨rs',h3,hc⟩:=Option.map_eq_some_iff.1 hc
 cases hc
 simp only[Bool.and_eq_true,decide_eq_true_eq]at hn;obtain⟨hn,rfl⟩:=hn;refine⟨⟨fn,c,_,hf,h1,h2,h3,hn,rfl⟩,hm,?_⟩;simp[bF,hf,h1,hb]
theorem ng {D:List Deferred} {a':Act} {f':Fr} {w':World} (ct:Rel D L fn.ntmps a' f') (hres:fn.results.toList.mapM (Iy P L)=some rs) (h1:cU f' w'.heap rs):
  (results fn a'.tmps).run P w'=.ok (cV f' w'.heap rs) w':=by
 have hrun:=ss (P:=P) ct (w:=w') hres h1;rw[mZ,Array.mapM_eq_mapM_toList];simp only[bind_pure_comp,Functor.map_map,Sem.run_map];rw[hrun];simp only[Result.andThen]
 congr 1
 cases rs with
 |nil=>rfl
 |cons r l=>cases l with
  |nil=>rfl
  |cons r2 l=>simp[cV]
theorem lr {P:Program} {fn:Func} {tmps:Array Value} {R:Ending->World->Prop}:∀(ms:List Nat) (w:World),ms.Nodup->(∀m∈ms,w.heap[m]?=some (.deferred (some [])))→
  (∀w':World,w'.heap.size=w.heap.size->(∀k,k∉ms->w'.heap[k]?=w.heap[k]?)->aW w w'->LeavesIn Fence.wide 0 P fn tmps R [] .returning w')→
  LeavesInM Fence.wide 0 P fn tmps R (ms.map fun m=>{target:=.collected m,args:=#[]}) .returning w
 |[],w,_,_,h=>h w rfl (fun _ _=>rfl) (aW.refl w)
 |m::ms,w,hn,hm,h=>by
  rw[List.nodup_cons]at hn;refine⟨by simp,.inl ⟨m,w.putObj m (.deferred none),rfl,run_takeDeferred (hm m (by simp)),?_⟩⟩;refine lr ms _ hn.2 (fun x hx=>?_) (fun w' h1 h2 h3=>?_)
  ·rw[World.putObj_heap_other (by rintro rfl;exact hn.1 hx)];exact hm x (by simp[hx])
  ·refine h w' (by rw[h1];exact World.putObj_size) (fun k hk=>?_) ((er _ _ _).trans h3);simp only[List.mem_cons,not_or]at hk;rw[h2 k hk.2,World.putObj_heap_other hk.1]
theorem ie (hk:iz P k s rs np g) {args:List Value} (ha:args.length<=np) {H:Hp} {R:Value->Hp->Prop}
  (h:vc P s (oZ g rs R) (look (dJ 0 args)) H):an P k args.toArray H R:=by
 obtain⟨⟨fn,c,L,hf,hb,ht,hres,hn,hg⟩,hmix,_⟩:=hk;intro w hw;have Br:∀t,look (dJ 0 args) t=args.getD t undef:=fun t=>by have:=gW args 0 t;rwa [Nat.zero_add]at this
 have UP:El (look (dJ 0 args) g)=[]:=by
  rw[Br,List.getD_eq_getElem?_getD,List.getElem?_eq_none (by omega)];rfl
 have hr:Rel (El (look (dJ 0 args) g)) L fn.ntmps {tmps:=args.toArray++Array.replicate (fn.ntmps -args.toArray.size) undef,defers:=[]} (look (dJ 0 args)):=by
  rw[UP];refine⟨rfl,by simp;omega,fun t _=>?_⟩;rw[Br,Array.getD_eq_getD_getElem?,List.getD_eq_getElem?_getD]
  by_cases ht:t<args.length
  ·simp[Array.getElem?_append,ht]
  ·rw[Array.getElem?_append,if_neg (by simpa using ht),List.getElem?_eq_none (by omega)];simp only[Array.getElem?_replicate]
   split<;>rfl
 refine callsIn_wide.1 (callsIn_of_wp_marks (n:=0) hf hb trivial ?_);refine wpIn_wide.2 (wp_mono (CR hmix c s ht _ _ _ w (hw▸h) hr) ?_);rintro e a' w' ⟨e',f',rfl,hq,ct,bO⟩;have fin:oZ g rs R .r f' w'.heap->LeavesInM Fence.wide 0 P fn a'.tmps (fun e w'=>∃v,e=.returned v/\R v w'.heap/\aW w w') a'.defers .returning w':=by
  rintro⟨h1,h2,h3⟩;rw[ct.d];refine lr _ _ h1 h2 fun w2 g1 g2 g3=>?_;obtain⟨h4,h5⟩:=h3 w2.heap g1 g2;exact⟨_,ng (w':=w2) ct hres h4,_,rfl,h5,bO.trans g3⟩
 cases e' with
 |n=>exact fin hq
 |r=>exact fin hq
 |x i=>exact hq.elim
end Go.Mg
namespace Go.Mg
open Go Go.RowKit
def W6 (P:Program) (tr:Operand->Option A) (o:Oper):Option EX:=
 match o.op with
 |.call c=>match c.callee with
  |.value (.tmp t)=>(tr (.tmp t)).bind fun g=>(qP tr c.args.toList).map (.cally g)
  |_=>ex P tr o
 |_=>ex P tr o
def o0 (P:Program) (L:List Nat) (n:Nat):List Oper->List Nat->Option (List O)
 |[],_=>some []
 |o::r,e=>
  (QF L n o.dst).bind fun d=>
  if o.guard.isNone&&lp o then
   match px P (xN L e) o with
   |some x=>(o0 P L n r (d.more e)).map (.p d x::·)
   |none=>(W6 P (xN L e) o).bind fun x=>(o0 P L n r (d.more e)).map (.e d x::·)
  else none
def dz (P:Program) (L:List Nat) (n:Nat):Code->Option S
 |.skip=>some .skip
 |.region _ ops draw=>if draw then none else(o0 P L n ops.toList []).map .reg
 |.seq a b=>(dz P L n a).bind fun x=>(dz P L n b).map (.seq x ·)
 |.cond c a b=>(xN L [] c).bind fun c=>(dz P L n a).bind fun x=>(dz P L n b).map (.ite c x ·)
 |.block id c=>(dz P L n c).map (.blk id ·)
 |.loop c=>(dz P L n c).map .loop
 |.exit id=>some (.exit id)
 |.ret=>some .ret
 |_=>none
variable {P:Program} {D:List Deferred} {L:List Nat} {n np:Nat} {k:FuncId} {s:S} {rs:List RV}
theorem CS {o:Oper} {a:Act} {w:World} {tr:Operand->Option A} {r:A->Value} {x:EX} (hnd:lp o=true) (hx:W6 P tr o=some x) (htr:∀y z,tr y=some z->a.eval y=r z)
  {K:Value->Hp->Prop} (h:x.wp P r w.heap K) {next:Act->World->Prop} {Q:Exit->Act->World->Prop} (hn:∀v w',K v w'.heap->aW w w'->next (a.put o.dst v) w'):o.wpIn (fe none) 0 P a w next Q:=by
 have plain:ex P tr o=some x->o.wpIn (fe none) 0 P a w next Q:=fun hx=>nN none hnd (kt hx htr h next Q hn)
 unfold W6 at hx
 split at hx
 case h_2=>exact plain hx
 rename_i c hop
 split at hx
 case h_2=>exact plain hx
 rename_i t hc;obtain⟨g,hg,hx⟩:=Option.bind_eq_some_iff.1 hx;obtain⟨as,has,rfl⟩:=Option.map_eq_some_iff.1 hx;obtain⟨l,hv,hy⟩:=h;obtain⟨fn,tmps,I3,body,h1,h2⟩:=hy w rfl;refine⟨fun _ _=>trivial,?_⟩;rw[Oper.semAt_eq _ _ _ (oW hnd)];have hargs:c.args.map a.eval=(as.map r).toArray:=by
  apply Array.ext';rw[Array.toList_map];exact gg htr has
 have hev:a.eval (.tmp t)=.func (.yield l) #[] #[]:=(htr _ _ hg).trans hv;have hrun:(execOp a.eval o).run P w=.ok (.round l fn tmps I3 body) w:=by
  simp only[execOp,hop,resolve,hc,hev,hargs];simp only[go_sem,Deferred.ofValue,Sem.run_bind,Sem.run_pure,Result.andThen,invoke];simpa using h1
 rw[hrun];refine⟨lj none,h2.mono ?_⟩;rintro e w' ⟨v,rfl,hk,hs⟩;exact hn _ _ hk hs
theorem yC {all:Array Oper} {w0:World} {Q:Fr->Hp->Prop} {Q':Exit->Act->World->Prop}
  (hQ:∀f a w,Q f w.heap->Rel D L n a f->aW w0 w->Q' .normal a w):
  ∀(l:List Oper) (ks:List Nat) (l':List O) (e:Env) (f:Fr) (a:Act) (w:World),o0 P L n l ks=some l'->gd D L n ks e a f->aW w0 w->ops P l' e f w.heap Q->wpListIn (fe none) 0 P all Q' l a w:=by
 intro l
 induction l with
 |nil=>
  intro ks l' e f a w hl hr hs h
  cases hl
  exact hQ f a w h hr.toRel hs
 |cons o l ih=>
  intro ks l' e f a w hl hr hs h;simp only[o0]at hl;obtain⟨d,hd,hl⟩:=Option.bind_eq_some_iff.1 hl
  split at hl
  case isFalse=>cases hl
  rename_i hg;simp only[Bool.and_eq_true,Option.isNone_iff_eq_none]at hg;unfold wpListIn;rw[if_pos (by simp[Region.wanted,hg.1])]
  split at hl
  ·rename_i x hx;obtain⟨l2,mX,rfl⟩:=Option.map_eq_some_iff.1 hl;obtain⟨hp,h⟩:=h;refine nN none hg.2 ?_;unfold Oper.wp;rw[en hx hr.rd (fun _=>rfl) hp,Oper.upon_value];exact ih _ _ _ _ _ _ mX (hr.put hd _) hs h
  ·obtain⟨x,hx,hl⟩:=Option.bind_eq_some_iff.1 hl;obtain⟨l2,mX,rfl⟩:=Option.map_eq_some_iff.1 hl;exact CS hg.2 hx hr.rd h fun v w' hk hw=>ih _ _ _ _ _ _ mX (hr.put hd _) (hs.trans hw) hk
theorem CT:∀(c:Code) (s:S),dz P L n c=some s->∀(Q:Ex->Fr->Hp->Prop) (f:Fr) (a:Act) (w:World),vc P s Q f w.heap->Rel D L n a f→
  c.wp P (oC D L n w Q) a w:=by
 intro c
 induction c with
 |skip=>
  intro s hs Q f a w h hr
  cases hs
  exact wp_skip ⟨.n,f,rfl,h,hr,aW.refl w⟩
 |exit id=>
  intro s hs Q f a w h hr
  cases hs
  exact wp_exit ⟨.x id,f,rfl,h,hr,aW.refl w⟩
 |ret=>
  intro s hs Q f a w h hr
  cases hs
  exact wp_ret ⟨.r,f,rfl,h,hr,aW.refl w⟩
 |region id all draw=>
  intro s hs Q f a w h hr;simp only[dz]at hs;have sr:gd D L n [] [] a f:=⟨hr,fun t _ h=>by simp at h⟩
  cases draw with
  |true=>simp at hs
  |false=>
   simp only[Bool.false_eq_true,if_false]at hs;obtain⟨l,hl,rfl⟩:=Option.map_eq_some_iff.1 hs;refine(wpIn_wide (n:=0)).1 (wpIn_region_list ?_);exact yC (w0:=w) (Q:=Q .n) (fun f' a' w' hq ct bO=>⟨.n,f',rfl,hq,ct,bO⟩) _ _ _ _ _ _ _ hl sr (aW.refl w) h
 |seq x y ihx ihy=>
  intro s hs Q f a w h hr;simp only[dz]at hs;obtain⟨sx,hx,hs⟩:=Option.bind_eq_some_iff.1 hs;obtain⟨sy,hy,rfl⟩:=Option.map_eq_some_iff.1 hs;refine wp_seq (wp_mono (ihx sx hx _ f a w h hr) ?_);rintro e a' w' ⟨e',f',rfl,hq,ct,bO⟩
  cases e' with
  |n=>exact wp_mono (ihy sy hy _ f' a' w' hq ct) fun _ _ _ h=>jM bO h
  |x id=>exact⟨.x id,f',rfl,hq,ct,bO⟩
  |r=>exact⟨.r,f',rfl,hq,ct,bO⟩
 |cond c x y ihx ihy=>
  intro s hs Q f a w h hr;simp only[dz]at hs;obtain⟨c',hc,hs⟩:=Option.bind_eq_some_iff.1 hs;obtain⟨sx,hx,hs⟩:=Option.bind_eq_some_iff.1 hs;obtain⟨sy,hy,rfl⟩:=Option.map_eq_some_iff.1 hs;have sr:gd D L n [] [] a f:=⟨hr,fun t _ h=>by simp at h⟩
  obtain⟨hb,h1,h2⟩:=h;have he:=(sr.rd _ _ hc).trans (dZ hb);exact wp_cond_split he (fun ht=>ihx sx hx _ f a w (h1 ht) hr) (fun ht=>ihy sy hy _ f a w (h2 ht) hr)
 |block id c ih=>
  intro s hs Q f a w h hr;simp only[dz]at hs;obtain⟨sx,hx,rfl⟩:=Option.map_eq_some_iff.1 hs;refine wp_block (wp_mono (ih sx hx _ f a w h hr) ?_);rintro e a' w' ⟨e',f',rfl,hq,ct,bO⟩
  cases e' with
  |n=>exact⟨.n,f',rfl,hq,ct,bO⟩
  |x i=>
   simp only[oz]at hq;simp only[Ex.to,Exit.inBlock]
   split
   ·rename_i hi;rw[if_pos hi]at hq;exact⟨.n,f',rfl,hq,ct,bO⟩
   ·rename_i hi;rw[if_neg hi]at hq;exact⟨.x i,f',rfl,hq,ct,bO⟩
  |r=>exact⟨.r,f',rfl,hq,ct,bO⟩
 |loop c ih=>
  intro s hs Q f a w h hr;simp only[dz]at hs;obtain⟨sx,hx,rfl⟩:=Option.map_eq_some_iff.1 hs;obtain⟨I,⟨m,h0⟩,hround⟩:=h;refine wp_loop_ghost (fun k a' w'=>∃f',I k f' w'.heap/\Rel D L n a' f'/\aW w w') m ⟨f,h0,hr,aW.refl w⟩ ?_;rintro k a1 w1 ⟨f1,hI,RG,hs1⟩;refine wp_mono (ih sx hx _ f1 a1 w1 (hround k f1 w1.heap hI) RG) ?_;rintro e a' w' ⟨e',f',rfl,hq,ct,bO⟩
  cases e' with
  |n=>
   obtain⟨m',hm,Mm⟩:=hq;exact⟨m',hm,f',Mm,ct,hs1.trans bO⟩
  |x i=>exact⟨.x i,f',rfl,hq,ct,hs1.trans bO⟩
  |r=>exact⟨.r,f',rfl,hq,ct,hs1.trans bO⟩
 |_=>intro s hs;cases hs
def Bt (P:Program) (fn:Func):Option (S×List RV):=
 fn.body.bind fun c=>(dz P (ry fn) fn.ntmps c).bind fun s=>(fn.results.toList.mapM (Iy P (ry fn))).map fun rs=>(s,rs)
structure lu (P:Program) (k:FuncId) (s:S) (rs:List RV) (np:Nat):Prop where
 ok:∃fn c L,P.funcs[k]?=some fn/\fn.body=some c/\dz P L fn.ntmps c=some s/\fn.results.toList.mapM (Iy P L)=some rs/\np<=fn.ntmps
 body:bF P k=true
theorem lu.mk' {fn:Func} (hf:P.funcs[k]?=some fn) (hc:Bt P fn=some (s,rs)) (hn:decide (np<=fn.ntmps)=true)
  (hb:(fn.name== "runtime.NumGoroutine")=false):lu P k s rs np:=by
 unfold Bt at hc;obtain⟨c,h1,hc⟩:=Option.bind_eq_some_iff.1 hc;obtain⟨s',h2,hc⟩:=Option.bind_eq_some_iff.1 hc;obtain⟨rs',h3,hc⟩:=Option.map_eq_some_iff.1 hc
 cases hc
 refine⟨⟨fn,c,_,hf,h1,h2,h3,of_decide_eq_true hn⟩,?_⟩;simp[bF,hf,h1,hb]
theorem tC (hk:lu P k s rs np) {args:List Value} (ha:args.length<=np) {H:Hp} {R:Value->Hp->Prop}
  (h:vc P s (kx rs R) (look (dJ 0 args)) H):an P k args.toArray H R:=by
 obtain⟨⟨fn,c,L,hf,hb,ht,hres,hn⟩,_⟩:=hk;intro w hw;refine calls_of_wp hf hb ?_;have Br:∀t,look (dJ 0 args) t=args.getD t undef:=fun t=>by have:=gW args 0 t;rwa [Nat.zero_add]at this
 have hr:Rel [] L fn.ntmps {tmps:=args.toArray++Array.replicate (fn.ntmps -args.toArray.size) undef,defers:=[]} (look (dJ 0 args)):=by
  refine⟨rfl,by simp;omega,fun t _=>?_⟩;rw[Br,Array.getD_eq_getD_getElem?,List.getD_eq_getElem?_getD]
  by_cases ht:t<args.length
  ·simp[Array.getElem?_append,ht]
  ·rw[Array.getElem?_append,if_neg (by simpa using ht),List.getElem?_eq_none (by omega)];simp only[Array.getElem?_replicate]
   split<;>rfl
 refine wp_mono (CT c s ht _ _ _ w (hw▸h) hr) ?_;rintro e a' w' ⟨e',f',rfl,hq,ct,bO⟩;have fin:kx rs R .r f' w'.heap->∃v,(results fn a'.tmps).run P w'=.ok v w'/\∃v',Ending.returned v=.returned v'/\R v' w'.heap/\aW w w':=by
  rintro⟨h1,h2⟩;exact⟨_,ng ct hres h1,_,rfl,h2,bO⟩
 cases e' with
 |n=>obtain⟨v,g1,v',g2,g3,g4⟩:=fin hq;exact⟨ct.d,v,g1,v',g2,g3,g4⟩
 |r=>obtain⟨v,g1,v',g2,g3,g4⟩:=fin hq;exact⟨ct.d,v,g1,v',g2,g3,g4⟩
 |x i=>exact hq.elim
end Go.Mg
namespace Go.Mg
open Go Go.RowKit
variable {H H':Hp}
theorem fF.wE {l:Nat} (h:fF l H H') {A:Hp} {W:Nat->Prop} (k:af W A H) (hl:A.size<=l):af W A H':=
 k.trans' h.ag (fun i hi e=>by omega)
theorem FA {P:Program} {g:Nat} {a:A} {p i:Nat} {body:S} {Q:Ex->Fr->Hp->Prop} {f:Fr} {gf:FuncId} {lb:Array Value} {xs:List Value} {G:Hp->Prop} (W:Nat->Prop) (I:Nat->Hp->Prop) (X:Ex->Hp->Prop)
  (hv:a.rd [] f=.func (.func gf) #[] lb) (hb:bF P gf=true) (hit:AJ P gf lb xs G) (hW:∀k,W k->k<H.size)
  (hG:∀k H',af W H H'->I k H'->G H')
  (h0:∀H0,af (fun _=>False) H H0->H.size+2<=H0.size->I 0 H0)
  (hst:∀k H1 H2,H.size+2<=H1.size->af W H H1->I k H1->af (fun b=>b=H.size+1) H1 H2->I k H2)
  (hsx:∀e H1 H2,H.size+2<=H1.size->af W H H1->X e H1->af (fun b=>b=H.size+1) H1 H2->X e H2)
  (hr:∀k H1,k<xs.length->af W H H1->H.size+2<=H1.size->I k H1->vc P body (fun e _ H2=>af (fun b=>W b\/H.size+2<=b) H1 H2/\match e with|.n=>I (k+1) H2|e=>X e H2) (bN (bN f p (xs.getD k undef)) i (xs.getD k undef)) H1)
  (hdone:∀H1,af W H H1->H.size+2<=H1.size->H1[H.size]?=some (.deferred (some []))->I xs.length H1->Q .n (bN f g (nr (f g) H.size)) H1)
  (hleft:∀e H1,af W H H1->H.size+2<=H1.size->H1[H.size]?=some (.deferred (some []))->X e H1->Q e (bN f g (nr (f g) H.size)) H1):vc P (.rf g a p i body) Q f H:=by
 refine⟨gf,lb,xs,G,fun k H'=>af W H H'/\H.size+2<=H'.size/\H'[H.size]?=some (.deferred (some []))/\I k H',fun e H'=>af W H H'/\H.size+2<=H'.size/\H'[H.size]?=some (.deferred (some []))/\X e H',⟨hv,hb,hit⟩,?_,?_,⟨?_,?_⟩,?_,?_,?_⟩
 ·rintro k H' ⟨h1,_,_,h4⟩;exact hG k H' h1 h4
 ·intro H0 hs hk hd;have K:af (fun _=>False) H H0:=⟨by omega,fun k h _=>hk k h⟩
  exact⟨K.any,by omega,hd,h0 H0 K (by omega)⟩
 ·rintro k H1 H2 ⟨h1,h2,h3,h4⟩ ho;exact⟨ho.wE h1 (by omega),by rw[ho.1];exact h2,by rw[ho.2 _ (by omega)];exact h3,hst k H1 H2 h2 h1 h4 ho.ag⟩
 ·rintro e H1 H2 ⟨h1,h2,h3,h4⟩ ho;exact⟨ho.wE h1 (by omega),by rw[ho.1];exact h2,by rw[ho.2 _ (by omega)];exact h3,hsx e H1 H2 h2 h1 h4 ho.ag⟩
 ·rintro k H1 hk ⟨h1,h2,h3,h4⟩;refine eQ ?_ (hr k H1 hk h1 h2 h4);rintro e f' H2 ⟨K,hq⟩;have hl:¬(W (H.size+1)\/H.size+2<=H.size+1):=by
   rintro(h|h)
   ·have:=hW _ h;omega
   ·omega
  have hd:¬(W H.size\/H.size+2<=H.size):=by
   rintro(h|h)
   ·have:=hW _ h;omega
   ·omega
  have KW:af W H H2:=h1.trans' K (fun i hi h=>h.resolve_right (by omega));have hs:H.size+2<=H2.size:=Nat.le_trans h2 K.size;have hd2:H2[H.size]?=some (.deferred (some [])):=by rw[K.at_ _ (by omega) hd];exact h3
  refine⟨K.at_ _ (by omega) hl,?_⟩
  cases e with
  |n=>exact⟨KW,hs,hd2,hq⟩
  |x id=>exact⟨KW,hs,hd2,hq⟩
  |r=>exact⟨KW,hs,hd2,hq⟩
 ·rintro H1 ⟨h1,h2,h3,h4⟩;exact hdone H1 h1 h2 h3 h4
 ·rintro e H1 ⟨h1,h2,h3,h4⟩;exact hleft e H1 h1 h2 h3 h4
@[go_sem] theorem UQ (g:Nat) (rs:List RV) (R) (f:Fr) (H:Hp):oZ g rs R .n f H=((mW (f g)).Nodup/\(∀m∈mW (f g),H[m]?=some (.deferred (some [])))∧
  ∀H':Hp,H'.size=H.size->(∀k,k∉mW (f g)->H'[k]?=H[k]?)->cU f H' rs/\R (cV f H' rs) H'):=rfl
@[go_sem] theorem UR (g:Nat) (rs:List RV) (R) (f:Fr) (H:Hp):oZ g rs R .r f H=((mW (f g)).Nodup/\(∀m∈mW (f g),H[m]?=some (.deferred (some [])))∧
  ∀H':Hp,H'.size=H.size->(∀k,k∉mW (f g)->H'[k]?=H[k]?)->cU f H' rs/\R (cV f H' rs) H'):=rfl
theorem gA:mW undef=[]:=rfl
attribute [go_sem] lq gA
theorem af.marks {ms:List Nat} (hs:H'.size=H.size) (hk:∀k,k∉ms->H'[k]?=H[k]?):af (fun k=>k∈ms) H H':=⟨by omega,fun k _ h=>hk k h⟩
end Go.Mg
