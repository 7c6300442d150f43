/- Lemmas of ours. No conditions. -/
import Derived.RangeFuncCalls
import Derived.OrdersIn
import Derived.Test.YtoclemmcphgikaaGreatDoorMgEl
open Bool renaming false→ZS,true→ZT
open Decidable renaming decide→ZQ
open Go renaming Value→ZR
open Option renaming none→ZU,some→ZV
open Array renaming ext'→Xy,getD_eq_getD_getElem?→Yl,getElem?_append→Yn,getElem?_push→Xw,getElem?_replicate→WE,replicate→Yz
open Bool renaming and_eq_true→ZJ,false_eq_true→ZD
open Function renaming comp_def→Vy
open List renaming getD_eq_getElem?_getD→ZP,getElem?_eq_none→Zz
open Nat renaming zero_add→Zt
set_option linter.all false
namespace Go.Mg
open Go Go.RowKit
def fe (ro:Option Nat):Fence:={Fence.wide with round:=ro}
def qh (ro:Option Nat):(fe ro).depth.isSome=ZT->1<=0:=fun h=>by cases h
variable {P:Program} {ro:Option Nat} {m n l id p i g np:Nat} {f:Fr} {args:Array ZR} {w w0:World} {R:ZR->Hp->Prop} {o ao:Oper} {a:Act} {next:Act->World->Prop} {Q:Ex->Fr->Hp->Prop} {D:List Deferred} {L:List Nat} {H H':Hp} {k:FuncId} {fn:Func} {s:S} {rs:List RV}
def EG {f:FuncId} {R:Ending->World->Prop} (h:Calls P f args w R):CallsIn (fe ro) m P f args w R:=
 (callsIn_wide (n:=m)).2 h
def aaJ {row:String} {R:ZR->World->Prop} (h:Rows P row args w R):RowsIn (fe ro) m P row args w R:=
 fun c cs _=>let⟨v,w',r,s⟩:=h c cs;⟨v,w',r,stepsIn_wide.2 s⟩
def qi (o:Oper):Bool:=match o.op with|.defer _=>ZS|_=>ZT
def vS (h:qi o=ZT):∀c,o.op≠.defer c:=fun c hc=>by simp[qi,hc]at h
def Nh {Q:Exit->Act->World->Prop} {r:Result Next} (ro:Option Nat) (h:o.upon P a next Q r):o.uponIn (fe ro) 0 P a next Q r:=by
 cases r with
 |ok x w'=>
  cases x<;>simp only[Oper.upon,Oper.uponIn]at h⊢<;>
   first
    |exact h
    |exact⟨qh ro,EG h⟩
    |exact⟨qh ro,aaJ h⟩
    |exact h.elim
 |halt x w'=>cases x<;>simp only[Oper.upon,Oper.uponIn]at h⊢<;>first|exact h|exact h.elim
def uM {Q:Exit->Act->World->Prop} (ro:Option Nat) (hd:qi o=ZT) (h:o.wp P a w next Q):o.wpIn (fe ro) 0 P a w next Q:=by
 refine⟨fun _ _=>trivial,?_⟩;have e:o.semAt (fe ro).round a.eval=execOp a.eval o:=Oper.semAt_eq _ _ _ (vS hd);rw[e];exact Nh ro h
def mE {P:Program} {ops:Array Oper} {Q:Exit->Act->World->Prop} (ro:Option Nat) (hQ:¬LetsOut Q):∀(l:List Oper) (a:Act) (w:World),l.all qi=ZT->wpList P ops Q l a w->wpListIn (fe ro) 0 P ops Q l a w
 |[],_,_,_,h=>h
 |o::l,a,w,hd,h=>by
  simp only[List.all_cons,ZJ]at hd;unfold wpList at h;unfold wpListIn
  split
  ·rename_i hw;rw[if_pos hw]at h;rcases h with h|h
   ·exact Oper.wpIn_mono (fun a w h=>mE ro hQ l a w hd.2 h) (uM ro hd.1 h)
   ·exact absurd h.2 hQ
  ·rename_i hw;rw[if_neg hw]at h;exact⟨fun _ _=>trivial,mE ro hQ l _ w hd.2 h⟩
def lj {P:Program} {md:Region.Mode} {ops:Array Oper} {Q:Exit->Act->World->Prop} (ro:Option Nat) (hQ:¬LetsOut Q) (hd:ops.all qi=ZT):∀(k:Nat) (listed:Array Bool) (a:Act) (w:World),wpAny P md ops Q k listed a w->wpAnyIn (fe ro) 0 P md ops Q k listed a w
 |0,_,_,_,h=>h
 |k+1,listed,a,w,h=>by
  refine⟨h.1,fun i hi=>?_⟩;have h2:=h.2 i hi;unfold wpOp at h2;unfold wpOpIn
  split at h2
  ·rename_i ho;simp only[ho];exact lj ro hQ hd k _ _ _ h2
  ·rename_i o ho;simp only[ho];have hdo:qi o=ZT:=by
    obtain⟨hlt,he⟩:=Array.getElem?_eq_some_iff.1 ho;have:=Array.all_eq_true.1 hd i hlt
    rwa [he]at this
   split
   ·rename_i hw;rw[if_pos hw]at h2;rcases h2 with h2|h2
    ·exact Oper.wpIn_mono (fun a w h=>lj ro hQ hd k _ a w h) (uM ro hdo h2)
    ·exact absurd h2.2 hQ
   ·rename_i hw;rw[if_neg hw]at h2;exact⟨fun _ _=>trivial,lj ro hQ hd k _ _ _ h2⟩
def ox:¬LetsOut (vu D L n w0 Q):=by
 rintro⟨a,w,e',f,he,_⟩
 cases e'<;>cases he
def gM (P:Program) (L:List Nat) (n:Nat):Code->Option S
 |.skip=>ZV .skip
 |.region _ ops draw=>
  if ops.all qi then
   if draw then(if Region.noSelect ops then(trT (fun o=>ad4 ops||ad3 ops o) P L n ops ops.size (Yz ops.size ZS) []).map .dr else ZU)
   else(lM P L n ops ops.toList []).map .reg
  else ZU
 |.seq a b=>(gM P L n a).bind fun x=>(gM P L n b).map (.seq x ·)
 |.cond c a b=>(FX L [] c).bind fun c=>(gM P L n a).bind fun x=>(gM P L n b).map (.ite c x ·)
 |.block id c=>(gM P L n c).map (.blk id ·)
 |.exit id=>ZV (.exit id)
 |.ret=>ZV .ret
 |_=>ZU
def Nj (hmix:P.follows .mixedOrders=ZT) (ro:Option Nat):∀(c:Code) (s:S),gM P L n c=ZV s->∀(Q:Ex->Fr->Hp->Prop) (f:Fr) (a:Act) (w:World),vc P s Q f w.heap->Rel D L n a f→
  c.wpIn (fe ro) 0 P (vu D L n w Q) a w:=by
 intro c
 induction c with
 |skip=>
  intro s hs Q f a w h hr
  cases hs
  exact wpIn_skip ⟨.n,f,rfl,h,hr,bI.refl w⟩
 |region id all draw=>
  intro s hs Q f a w h hr;simp only[gM]at hs
  split at hs
  case isFalse=>cases hs
  rename_i hd;have zK:jy D L n [] [] a f:=⟨hr,fun t _ h=>by simp at h⟩
  cases draw with
  |false=>
   simp only[ZD,if_false]at hs;obtain⟨l,hl,rfl⟩:=Option.map_eq_some_iff.1 hs;refine wpIn_region_list (mE ro ox _ _ _ (by simpa using hd) ?_);exact rK (w0:=w) (Q:=Q .n) (fun f' a' w' hq dD cI=>⟨.n,f',rfl,hq,dD,cI⟩) _ _ _ _ _ _ _ hl zK (bI.refl w) h
  |true=>
   simp only[if_true]at hs
   split at hs
   case isFalse=>cases hs
   rename_i hsel;obtain⟨t,ht,rfl⟩:=Option.map_eq_some_iff.1 hs;obtain⟨C,hC,h⟩:=h;refine wpIn_region_any hmix (lj ro ox hd _ _ _ _ (wpAny_of_held (S:=fun w'=>C w'.heap/\bI w w') _ _ _ _ ?_));exact yE hsel (w0:=w) (Q:=Q .n) (fun f' a' w' hq dD cI=>⟨.n,f',rfl,hq,dD,cI⟩) (fun c a' w' ⟨e',_,he,_⟩=>by cases e'<;>cases he) _ _ _ _ _ _ _ _ _ ht zK hC (nt w) h
 |seq x y ihx ihy=>
  intro s hs Q f a w h hr;simp only[gM]at hs;obtain⟨sx,hx,hs⟩:=Option.bind_eq_some_iff.1 hs;obtain⟨sy,hy,rfl⟩:=Option.map_eq_some_iff.1 hs;refine wpIn_seq (wpIn_mono (ihx sx hx _ f a w h hr) ?_);rintro e a' w' ⟨e',f',rfl,hq,dD,cI⟩
  cases e' with
  |n=>exact wpIn_mono (ihy sy hy _ f' a' w' hq dD) fun _ _ _ h=>oO cI h
  |x id=>exact⟨.x id,f',rfl,hq,dD,cI⟩
  |r=>exact⟨.r,f',rfl,hq,dD,cI⟩
 |cond c x y ihx ihy=>
  intro s hs Q f a w h hr;simp only[gM]at hs;obtain⟨c',hc,hs⟩:=Option.bind_eq_some_iff.1 hs;obtain⟨sx,hx,hs⟩:=Option.bind_eq_some_iff.1 hs;obtain⟨sy,hy,rfl⟩:=Option.map_eq_some_iff.1 hs;have zK:jy D L n [] [] a f:=⟨hr,fun t _ h=>by simp at h⟩
  obtain⟨hb,h1,h2⟩:=h;have he:=(zK.rd _ _ hc).trans (gh hb);exact wpIn_cond_split he (fun ht=>ihx sx hx _ f a w (h1 ht) hr) (fun ht=>ihy sy hy _ f a w (h2 ht) hr)
 |block id c ih=>
  intro s hs Q f a w h hr;simp only[gM]at hs;obtain⟨sx,hx,rfl⟩:=Option.map_eq_some_iff.1 hs;refine wpIn_block (wpIn_mono (ih sx hx _ f a w h hr) ?_);rintro e a' w' ⟨e',f',rfl,hq,dD,cI⟩
  cases e' with
  |n=>exact⟨.n,f',rfl,hq,dD,cI⟩
  |x i=>
   simp only[uj]at hq;simp only[Ex.to,Exit.inBlock]
   split
   ·rename_i hi;rw[if_pos hi]at hq;exact⟨.n,f',rfl,hq,dD,cI⟩
   ·rename_i hi;rw[if_neg hi]at hq;exact⟨.x i,f',rfl,hq,dD,cI⟩
  |r=>exact⟨.r,f',rfl,hq,dD,cI⟩
 |exit id=>
  intro s hs Q f a w h hr
  cases hs
  exact wpIn_exit ⟨.x id,f,rfl,h,hr,bI.refl w⟩
 |ret=>
  intro s hs Q f a w h hr
  cases hs
  exact wpIn_ret ⟨.r,f,rfl,h,hr,bI.refl w⟩
 |_=>intro s hs;cases hs
def Pm (v:ZR):List Deferred:=(l8 v).map fun m=>{target:=.collected m,args:=#[]}
def jI (v:ZR) (d:Nat):l8 (pS v d)=d::l8 v:=by
 simp[l8,pS,Value.i,Vy]
def Qu (v:ZR) (d:Nat):Pm (pS v d)={target:=.collected d,args:=#[]}::Pm v:=by
 unfold Pm;rw[jI];rfl
def Ex.code:Ex->Option Code
 |.n=>ZU
 |.x id=>ZV (.exit id)
 |.r=>ZV .ret
def i6.put {o:Obj}:i6 l w.heap (w.putObj l o).heap:=⟨World.putObj_size,fun _ hk=>World.putObj_heap_other hk⟩
def i6.ai (h:i6 l H H'):af (fun k=>k=l) H H':=⟨Nat.le_of_eq h.1.symm,fun k _ hk=>h.2 k hk⟩
def gy (w:World) (l:Nat) (o:Obj):bI w (w.putObj l o):=⟨rfl,rfl,rfl⟩
def vT (ts:Array ZR) (p:Nat) (hp:p<ts.size) (x:ZR) (t:Nat):(ts.setIfInBounds p x).getD t undef=if t=p then x else ts.getD t undef:=by
 simp only[Yl,Array.getElem?_setIfInBounds]
 by_cases h:t=p
 ·subst h;simp[hp]
 ·rw[if_neg (fun e=>h e.symm),if_neg h]
def Nk (ha:ao.op=.assign (.tmp p)) (had:ao.dst=ZV i) (hag:ao.guard=ZU) {K:Act->World->Prop}
  (h:K (a.put (ZV i) (a.eval (.tmp p))) w):(Code.region id #[ao] ZS).wpIn (fe ro) 0 P (Exit.then K (fun _ _ _=>False)) a w:=by
 refine wpIn_region_list ?_;unfold wpListIn
 show if Region.wanted ao (yielded #[ao] a.tmps)=ZT then _ else _
 rw[if_pos (by simp[Region.wanted,hag])];refine⟨fun _ _=>trivial,?_⟩;rw[Oper.semAt_eq _ _ _ (fun c hc=>by rw[ha]at hc;cases hc)];simp only[execOp,ha,Sem.run_pure,Oper.uponIn_value,had];exact h
def Qv (hmix:P.follows .mixedOrders=ZT) {gO:Operand} {ga:A} {body:Code} {sb:S}
  (hg:FX L [] gO=ZV ga) (hp:L.contains p=ZT) (hi:L.contains i=ZT) (hin:i<n) (hpn:p<n) (ha:ao.op=.assign (.tmp p)) (had:ao.dst=ZV i) (hag:ao.guard=ZU) (hb:gM P L n body=ZV sb)
 (hgn:L.contains g=ZS) (h:vc P (.rf g ga p i sb) Q f w.heap) (hr:Rel D L n a f):
  (Code.rangeFunc gO #[p] (.region id #[ao] ZS) body).wpIn (fe ZU) 0 P (fun e a' w'=>∃e' f',e=e'.to/\Q e' f' w'.heap/\Rel ({target:=.collected w.heap.size,args:=#[]}::D) L n a' f'/\bI w w'/\f'=bR f g (pS (f g) w.heap.size)) a w:=by
 obtain⟨gf,lb,xs,G,J,X,⟨hv,hbo,hit⟩,hG,h0,⟨hst,hsx⟩,hrd,hdone,hleft⟩:=h;have zK:jy D L n [] [] a f:=⟨hr,fun t _ h=>by simp at h⟩
 have hev:a.eval gO=.func (.func gf) #[] lb:=(zK.rd _ _ hg).trans hv;refine wpIn_rangeFunc ?_;intro fn _;obtain⟨rec,hrec⟩:∃rec:LoopState->Option Code->Loop,rec=fun st pe=>{state:=st,pending:=pe,fn,tmps:=a.tmps,params:=#[p],assign:=.region id #[ao] ZS,body,defers:=w.heap.size}:=⟨_,rfl⟩
 obtain⟨W1,hW1⟩:∃W1,(w.alloc (.deferred (ZV []))).alloc (.loop (rec .ready ZU))=W1:=⟨_,rfl⟩
 have hs1:bI w W1:=by rw[<-hW1];exact⟨rfl,rfl,rfl⟩
 have hL1:W1.heap[w.heap.size+1]?=ZV (.loop (rec .ready ZU)):=by
  rw[<-hW1];have:=World.alloc_heap_new (w.alloc (.deferred (ZV []))) (.loop (rec .ready ZU));rwa [World.size_alloc]at this
 have hJ1:J 0 W1.heap:=by
  refine h0 _ (by rw[<-hW1];simp) (fun k hk=>?_) ?_
  ·rw[<-hW1]
   show((w.heap.push _).push _)[k]?=_
   rw[Xw,if_neg (by simp;omega),Xw,if_neg (by omega)]
  ·rw[<-hW1]
   show((w.heap.push _).push _)[w.heap.size]?=_
   rw[Xw,if_neg (by simp),Xw,if_pos rfl]
 refine⟨w.heap.size+1,[{target:=.collected w.heap.size,args:=#[]}],W1,{target:=.fn (.func gf) lb,args:=#[.func (.yield (w.heap.size+1)) #[] #[]]},W1,gf,
  #[.func (.yield (w.heap.size+1)) #[] #[]]++lb,W1,?_,?_,fun _ _=>trivial,?_,qh ZU,?_⟩
 ·rw[<-hW1,hrec];exact run_enterLoop_outer _ _ _ _ _
 ·simp only[resolve,hev];simp[go_sem]
 ·simp only[invoke,go_sem];exact vt hbo
 ·refine(EG (ro:=ZU) (hit (w.heap.size+1) (fun k H=>J k H/\H[w.heap.size+1]?=ZV (.loop (rec .ready ZU)))
   (fun H=>∃e:Ex,e≠.n/\X e H/\H[w.heap.size+1]?=ZV (.loop (rec .done e.code))) ?_ (fun k H h=>hG k H h.1) _ ⟨hJ1,hL1⟩ W1 rfl)).mono ?_
  ·-- one round
   rintro k H hk ⟨hj,hl⟩ W rfl;generalize hx:xs.getD k undef=x;have hlt:w.heap.size+1<W.heap.size:=(Array.getElem?_eq_some_iff.1 hl).1;have hy:(Instr.yield (w.heap.size+1) #[x]).run P W=.ok (.round (w.heap.size+1) fn (a.tmps.setIfInBounds p x) (.region id #[ao] ZS) body) W:=by
    have:=run_yield (P:=P) (args:=#[x]) hl (by rw[hrec];rfl);rw[hrec]at this;simpa using this
   refine⟨fn,_,_,_,hy,?_⟩;refine roundIn_of_wpIn (F:=Fence.wide) (n:=0) trivial ?_;have hfe:Fence.wide.inRound (w.heap.size+1)=fe (ZV (w.heap.size+1)):=rfl;rw[hfe];have hrp:Rel [] L n {tmps:=a.tmps.setIfInBounds p x,defers:=[]} (bR f p x):=by
    refine⟨rfl,by simp[hr.s],fun t ht=>?_⟩;simp only[bR];rw[vT _ _ (by rw[hr.s];exact hpn)]
    split
    ·rfl
    ·exact hr.l t ht
   have hxe:(({tmps:=a.tmps.setIfInBounds p x,defers:=[]}:Act).eval (.tmp p))=x:=by
    show(a.tmps.setIfInBounds p x).getD p undef=x
    rw[vT _ _ (by rw[hr.s];exact hpn),if_pos rfl]
   refine Nk ha had hag ?_;rw[hxe];refine⟨W.putObj (w.heap.size+1) (.loop {rec .ready ZU with state:=.busy}),run_beginRound hl (by rw[hrec]),?_⟩;have tN:(W.putObj (w.heap.size+1) (.loop {rec .ready ZU with state:=.busy})).heap[w.heap.size+1]?=ZV (.loop {rec .ready ZU with state:=.busy}):=World.putObj_heap_same hlt;have UD:=hst _ _ _ hj (i6.put (w:=W) (o:=.loop {rec .ready ZU with state:=.busy}));have afC:=hrd k _ hk UD;rw[hx]at afC;generalize hW2:W.putObj (w.heap.size+1) (.loop {rec .ready ZU with state:=.busy})=W2 at tN UD afC⊢;have hs2:bI W W2:=by rw[<-hW2];exact gy _ _ _
   have hri:Rel [] L n (({tmps:=a.tmps.setIfInBounds p x,defers:=[]}:Act).put (ZV i) x) (bR (bR f p x) i x):=by
    refine⟨rfl,by simp[Act.put,hr.s],fun t ht=>?_⟩;rw[Ej _ _ (by rw[hrp.s];exact hin)];simp only[bR]
    split
    ·rfl
    ·exact hrp.l t ht
   refine wpIn_mono (n:=0) (Nj hmix (ZV (w.heap.size+1)) body sb hb _ _ _ W2 afC hri) ?_;rintro e a3 W3 ⟨e',f3,rfl,⟨hk3,hj3⟩,_,UA⟩;have hl3:W3.heap[w.heap.size+1]?=ZV (.loop {rec .ready ZU with state:=.busy}):=hk3.trans tN;have fin:∀jump:Option Code,(Instr.endRound (w.heap.size+1) jump).run P W3=.ok (.bool jump.isNone) (W3.putObj (w.heap.size+1) (.loop (rec (if jump.isNone then .ready else .done) jump)))∧
     (W3.putObj (w.heap.size+1) (.loop (rec (if jump.isNone then .ready else .done) jump))).heap[w.heap.size+1]?=ZV (.loop (rec (if jump.isNone then .ready else .done) jump)):=fun jump=>by
    have:=run_endRound (P:=P) jump hl3;rw[hrec]at this⊢;exact⟨this,World.putObj_heap_same (Array.getElem?_eq_some_iff.1 hl3).1⟩
   have hss:bI W W3:=hs2.trans UA
   cases e' with
   |n=>
    obtain⟨h1,h2⟩:=fin ZU;exact⟨_,_,h1,_,rfl,.inl ⟨rfl,hst _ _ _ hj3 i6.put,h2⟩,hss.trans (gy _ _ _)⟩
   |x id=>
    obtain⟨h1,h2⟩:=fin (ZV (.exit id));exact⟨_,_,h1,_,rfl,.inr ⟨rfl,.x id,by simp,hsx _ _ _ hj3 i6.put,h2⟩,hss.trans (gy _ _ _)⟩
   |r=>
    obtain⟨h1,h2⟩:=fin (ZV .ret);exact⟨_,_,h1,_,rfl,.inr ⟨rfl,.r,by simp,hsx _ _ _ hj3 i6.put,h2⟩,hss.trans (gy _ _ _)⟩
  ·rintro e W2 ⟨v,rfl,hs2,hJ⟩;have afD:Rel ({target:=.collected w.heap.size,args:=#[]}::D) L n {a with defers:=[{target:=.collected w.heap.size,args:=#[]}]++a.defers} (bR f g (pS (f g) w.heap.size)):=by
    refine⟨by simp[hr.d],hr.s,fun t ht=>?_⟩;have:t≠g:=fun e=>by subst e;rw[hgn]at ht;cases ht
    simp only[bR,if_neg this];exact hr.l t ht
   rcases hJ with⟨hj,hl⟩|⟨e',hne,hx,hl⟩
   ·refine⟨ZU,_,by have:=run_endLoop (P:=P) hl (by rw[hrec];simp);rw[hrec]at this;exact this,?_⟩;exact⟨.n,_,rfl,hdone _ (hst _ _ _ hj i6.put),afD,(hs1.trans hs2).trans (gy _ _ _),rfl⟩
   ·refine⟨e'.code,_,by have:=run_endLoop (P:=P) hl (by rw[hrec];simp);rw[hrec]at this;exact this,?_⟩;have hq:=fun o=>hleft e' _ (hsx _ _ _ hx (i6.put (w:=W2) (o:=o)))
    cases e' with
    |n=>exact absurd rfl hne
    |x id=>exact wpIn_exit ⟨.x id,_,rfl,hq _,afD,(hs1.trans hs2).trans (gy _ _ _),rfl⟩
    |r=>exact wpIn_ret ⟨.r,_,rfl,hq _,afD,(hs1.trans hs2).trans (gy _ _ _),rfl⟩
def Ao:Code->Option (Oper×Nat×Nat)
 |.region _ ops ZS=>match ops.toList with
  |[ao]=>match ao.op,ao.dst,ao.guard with
   |.assign (.tmp p),ZV i,ZU=>ZV (ao,p,i)
   |_,_,_=>ZU
  |_=>ZU
 |_=>ZU
def eK (P:Program) (L:List Nat) (n g:Nat):Code->Option S
 |.seq a b=>(eK P L n g a).bind fun x=>(eK P L n g b).map (.seq x ·)
 |.cond c a b=>(FX L [] c).bind fun c=>(eK P L n g a).bind fun x=>(eK P L n g b).map (.ite c x ·)
 |.block id c=>(eK P L n g c).map (.blk id ·)
 |.loop c=>(eK P L n g c).map .loop
 |.rangeFunc gO ps UX body=>match ps.toList with
  |[p]=>(Ao UX).bind fun q=>if q.2.1=p/\q.2.2<n/\p<n/\L.contains p=ZT/\L.contains q.2.2=ZT/\L.contains g=ZS then
    (FX L [] gO).bind fun ga=>(gM P L n body).map fun sb=>.rf g ga p q.2.2 sb
   else ZU
  |_=>ZU
 |.skip=>ZV .skip
 |.exit id=>ZV (.exit id)
 |.ret=>ZV .ret
 |c=>(trans P L n c).bind fun s=>if s.wr.contains g then ZU else ZV s
def Lx (L:List Nat) (n g:Nat) (w0:World) (Q:Ex->Fr->Hp->Prop):Exit->Act->World->Prop:=fun e a w=>∃e' f,e=e'.to/\Q e' f w.heap/\Rel (Pm (f g)) L n a f/\bI w0 w
def GC {w1:World} (hs:bI w0 w1) {e:Exit} (h:Lx L n g w1 Q e a w):Lx L n g w0 Q e a w:=
 let⟨e',f,h1,h2,h3,h4⟩:=h;⟨e',f,h1,h2,h3,hs.trans h4⟩
def Ap {c:Code} {q:Oper×Nat×Nat} (h:Ao c=ZV q):∃id,c=.region id #[q.1] ZS/\q.1.op=.assign (.tmp q.2.1)/\q.1.dst=ZV q.2.2/\q.1.guard=ZU:=by
 unfold Ao at h
 split at h
 case h_2=>cases h
 rename_i id ops
 split at h
 case h_2=>cases h
 rename_i ao hao
 split at h
 case h_2=>cases h
 rename_i p i h1 h2 h3
 cases h
 refine⟨id,?_,h1,h2,h3⟩
 congr 1
 apply Xy;exact hao
def Nl (hmix:P.follows .mixedOrders=ZT):∀(c:Code) (s:S),eK P L n g c=ZV s->∀(Q:Ex->Fr->Hp->Prop) (f:Fr) (a:Act) (w:World),vc P s Q f w.heap->Rel (Pm (f g)) L n a f→
  c.wp P (Lx L n g w Q) a w:=by
 have leaf:∀(c:Code) (s:S),((trans P L n c).bind fun s=>if s.wr.contains g then ZU else ZV s)=ZV s->∀(Q:Ex->Fr->Hp->Prop) (f:Fr) (a:Act) (w:World),vc P s Q f w.heap->Rel (Pm (f g)) L n a f→
   c.wp P (Lx L n g w Q) a w:=by
  intro c s hs Q f a w h hr;obtain⟨s',ht,hs⟩:=Option.bind_eq_some_iff.1 hs
  split at hs
  case isTrue=>cases hs
  rename_i hn
  cases hs
  have h2:=fX s f w.heap Q (fun e f' H'=>Q e f' H'/\f' g=f g) (fun e f' H' q k=>⟨q,k g (by simpa using hn)⟩) h;refine wp_mono (El hmix c s ht _ f a w h2 hr) ?_;rintro e a' w' ⟨e',f',rfl,⟨hq,hg⟩,dD,cI⟩;exact⟨e',f',rfl,hq,by rw[hg];exact dD,cI⟩
 intro c
 induction c with
 |skip=>
  intro s hs Q f a w h hr
  cases hs
  exact wp_skip ⟨.n,f,rfl,h,hr,bI.refl w⟩
 |exit id=>
  intro s hs Q f a w h hr
  cases hs
  exact wp_exit ⟨.x id,f,rfl,h,hr,bI.refl w⟩
 |ret=>
  intro s hs Q f a w h hr
  cases hs
  exact wp_ret ⟨.r,f,rfl,h,hr,bI.refl w⟩
 |seq x y ihx ihy=>
  intro s hs Q f a w h hr;simp only[eK]at hs;obtain⟨sx,hx,hs⟩:=Option.bind_eq_some_iff.1 hs;obtain⟨sy,hy,rfl⟩:=Option.map_eq_some_iff.1 hs;refine wp_seq (wp_mono (ihx sx hx _ f a w h hr) ?_);rintro e a' w' ⟨e',f',rfl,hq,dD,cI⟩
  cases e' with
  |n=>exact wp_mono (ihy sy hy _ f' a' w' hq dD) fun _ _ _ h=>GC cI h
  |x id=>exact⟨.x id,f',rfl,hq,dD,cI⟩
  |r=>exact⟨.r,f',rfl,hq,dD,cI⟩
 |cond c x y ihx ihy=>
  intro s hs Q f a w h hr;simp only[eK]at hs;obtain⟨c',hc,hs⟩:=Option.bind_eq_some_iff.1 hs;obtain⟨sx,hx,hs⟩:=Option.bind_eq_some_iff.1 hs;obtain⟨sy,hy,rfl⟩:=Option.map_eq_some_iff.1 hs;have zK:jy (Pm (f g)) L n [] [] a f:=⟨hr,fun t _ h=>by simp at h⟩
  obtain⟨hb,h1,h2⟩:=h;have he:=(zK.rd _ _ hc).trans (gh hb);exact wp_cond_split he (fun ht=>ihx sx hx _ f a w (h1 ht) hr) (fun ht=>ihy sy hy _ f a w (h2 ht) hr)
 |block id c ih=>
  intro s hs Q f a w h hr;simp only[eK]at hs;obtain⟨sx,hx,rfl⟩:=Option.map_eq_some_iff.1 hs;refine wp_block (wp_mono (ih sx hx _ f a w h hr) ?_);rintro e a' w' ⟨e',f',rfl,hq,dD,cI⟩
  cases e' with
  |n=>exact⟨.n,f',rfl,hq,dD,cI⟩
  |x i=>
   simp only[uj]at hq;simp only[Ex.to,Exit.inBlock]
   split
   ·rename_i hi;rw[if_pos hi]at hq;exact⟨.n,f',rfl,hq,dD,cI⟩
   ·rename_i hi;rw[if_neg hi]at hq;exact⟨.x i,f',rfl,hq,dD,cI⟩
  |r=>exact⟨.r,f',rfl,hq,dD,cI⟩
 |loop c ih=>
  intro s hs Q f a w h hr;simp only[eK]at hs;obtain⟨sx,hx,rfl⟩:=Option.map_eq_some_iff.1 hs;obtain⟨I,⟨m,h0⟩,hround⟩:=h;refine wp_loop_ghost (fun k a' w'=>∃f',I k f' w'.heap/\Rel (Pm (f' g)) L n a' f'/\bI w w') m ⟨f,h0,hr,bI.refl w⟩ ?_;rintro k a1 w1 ⟨f1,hI,hr1,hs1⟩;refine wp_mono (ih sx hx _ f1 a1 w1 (hround k f1 w1.heap hI) hr1) ?_;rintro e a' w' ⟨e',f',rfl,hq,dD,cI⟩
  cases e' with
  |n=>
   obtain⟨m',hm,hI'⟩:=hq;exact⟨m',hm,f',hI',dD,hs1.trans cI⟩
  |x i=>exact⟨.x i,f',rfl,hq,dD,hs1.trans cI⟩
  |r=>exact⟨.r,f',rfl,hq,dD,hs1.trans cI⟩
 |rangeFunc gO ps UX body iha ihb=>
  intro s hs Q f a w h hr;simp only[eK]at hs
  split at hs
  case h_2=>cases hs
  rename_i p hps;obtain⟨q,hq,hs⟩:=Option.bind_eq_some_iff.1 hs
  split at hs
  case isFalse=>cases hs
  rename_i hc;obtain⟨rfl,h1,h2,h3,h4,h5⟩:=hc;obtain⟨ga,hga,hs⟩:=Option.bind_eq_some_iff.1 hs;obtain⟨sb,Pg,rfl⟩:=Option.map_eq_some_iff.1 hs;obtain⟨id,rfl,g1,g2,g3⟩:=Ap hq;have hpe:ps=#[q.2.1]:=by apply Xy;exact hps
  subst hpe;refine wp_mono (wpIn_wide.1 (Qv (n:=n) (Q:=Q) (f:=f) hmix hga h3 h4 h1 h2 g1 g2 g3 Pg h5 h hr)) ?_;rintro e a' w' ⟨e',f',rfl,vl,dD,cI,rfl⟩;refine⟨e',_,rfl,vl,?_,cI⟩;have:Pm (bR f g (pS (f g) w.heap.size) g)={target:=.collected w.heap.size,args:=#[]}::Pm (f g):=by
   simp only[bR,if_true,Qu]
  rw[this];exact dD
 |region id ops draw=>exact leaf _
 |_=>intro s hs;simp[eK,trans]at hs
def oy (g:Nat) (rs:List RV) (R:ZR->Hp->Prop):Ex->Fr->Hp->Prop
 |.x _,_,_=>False
 |_,f,H=>(l8 (f g)).Nodup/\(∀m∈l8 (f g),H[m]?=ZV (.deferred (ZV [])))∧
  ∀H':Hp,H'.size=H.size->(∀k,k∉l8 (f g)->H'[k]?=H[k]?)->dQ f H' rs/\R (dR f H' rs) H'
def Ly (P:Program) (fn:Func):Option (S×List RV):=
 fn.body.bind fun c=>(eK P (yF fn) fn.ntmps fn.ntmps c).bind fun s=>(fn.results.toList.mapM (UC P (yF fn))).map fun rs=>(s,rs)
structure iH (P:Program) (k:FuncId) (s:S) (rs:List RV) (np g:Nat):Prop where
 ok:∃fn c L,P.funcs[k]?=ZV fn/\fn.body=ZV c/\eK P L fn.ntmps g c=ZV s/\fn.results.toList.mapM (UC P L)=ZV rs/\np<=fn.ntmps/\g=fn.ntmps
 mix:P.follows .mixedOrders=ZT
 body:bS P k=ZT
def iH.mk' (hf:P.funcs[k]?=ZV fn) (hm:P.follows .mixedOrders=ZT) (hc:Ly P fn=ZV (s,rs)) (hn:(ZQ (np<=fn.ntmps)&&ZQ (g=fn.ntmps))=ZT)
  (hb:(fn.name== "runtime.NumGoroutine")=ZS):iH P k s rs np g:=by
 unfold Ly at hc;obtain⟨c,h1,hc⟩:=Option.bind_eq_some_iff.1 hc;obtain⟨s',h2,hc⟩:=Option.bind_eq_some_iff.1 hc;obtain⟨rs',h3,hc⟩:=Option.map_eq_some_iff.1 hc
 cases hc
 simp only[ZJ,decide_eq_true_eq]at hn;obtain⟨hn,rfl⟩:=hn;refine⟨⟨fn,c,_,hf,h1,h2,h3,hn,rfl⟩,hm,?_⟩;simp[bS,hf,h1,hb]
def tT {a':Act} {f':Fr} {w':World} (dD:Rel D L fn.ntmps a' f') (hres:fn.results.toList.mapM (UC P L)=ZV rs) (h1:dQ f' w'.heap rs):
  (results fn a'.tmps).run P w'=.ok (dR f' w'.heap rs) w':=by
 have hrun:=zL (P:=P) dD (w:=w') hres h1;rw[tP,Array.mapM_eq_mapM_toList];simp only[bind_pure_comp,Functor.map_map,Sem.run_map];rw[hrun];simp only[Result.andThen]
 congr 1
 cases rs with
 |nil=>rfl
 |cons r l=>cases l with
  |nil=>rfl
  |cons r2 l=>simp[dR]
def qj {P:Program} {fn:Func} {tmps:Array ZR} {R:Ending->World->Prop}:∀(ms:List Nat) (w:World),ms.Nodup->(∀m∈ms,w.heap[m]?=ZV (.deferred (ZV [])))→
  (∀w':World,w'.heap.size=w.heap.size->(∀k,k∉ms->w'.heap[k]?=w.heap[k]?)->bI w w'->LeavesIn Fence.wide 0 P fn tmps R [] .returning w')→
  LeavesInM Fence.wide 0 P fn tmps R (ms.map fun m=>{target:=.collected m,args:=#[]}) .returning w
 |[],w,_,_,h=>h w rfl (fun _ _=>rfl) (bI.refl w)
 |m::ms,w,hn,hm,h=>by
  rw[List.nodup_cons]at hn;refine⟨by simp,.inl ⟨m,w.putObj m (.deferred ZU),rfl,run_takeDeferred (hm m (by simp)),?_⟩⟩;refine qj ms _ hn.2 (fun x hx=>?_) (fun w' h1 h2 h3=>?_)
  ·rw[World.putObj_heap_other (by rintro rfl;exact hn.1 hx)];exact hm x (by simp[hx])
  ·refine h w' (by rw[h1];exact World.putObj_size) (fun k hk=>?_) ((gy _ _ _).trans h3);simp only[List.mem_cons,not_or]at hk;rw[h2 k hk.2,World.putObj_heap_other hk.1]
def gW (hk:iH P k s rs np g) {args:List ZR} (ha:args.length<=np)
  (h:vc P s (oy g rs R) (look (fK 0 args)) H):an P k args.toArray H R:=by
 obtain⟨⟨fn,c,L,hf,hb,ht,hres,hn,hg⟩,hmix,_⟩:=hk;intro w hw;have Lz:∀t,look (fK 0 args) t=args.getD t undef:=fun t=>by have:=kt args 0 t;rwa [Zt]at this
 have hm0:Pm (look (fK 0 args) g)=[]:=by
  rw[Lz,ZP,Zz (by omega)];rfl
 have hr:Rel (Pm (look (fK 0 args) g)) L fn.ntmps {tmps:=args.toArray++Yz (fn.ntmps -args.toArray.size) undef,defers:=[]} (look (fK 0 args)):=by
  rw[hm0];refine⟨rfl,by simp;omega,fun t _=>?_⟩;rw[Lz,Yl,ZP]
  by_cases ht:t<args.length
  ·simp[Yn,ht]
  ·rw[Yn,if_neg (by simpa using ht),Zz (by omega)];simp only[WE]
   split<;>rfl
 refine callsIn_wide.1 (callsIn_of_wp_marks (n:=0) hf hb trivial ?_);refine wpIn_wide.2 (wp_mono (Nl hmix c s ht _ _ _ w (hw▸h) hr) ?_);rintro e a' w' ⟨e',f',rfl,hq,dD,cI⟩;have fin:oy g rs R .r f' w'.heap->LeavesInM Fence.wide 0 P fn a'.tmps (fun e w'=>∃v,e=.returned v/\R v w'.heap/\bI w w') a'.defers .returning w':=by
  rintro⟨h1,h2,h3⟩;rw[dD.d];refine qj _ _ h1 h2 fun w2 g1 g2 g3=>?_;obtain⟨h4,h5⟩:=h3 w2.heap g1 g2;exact⟨_,tT (w':=w2) dD hres h4,_,rfl,h5,cI.trans g3⟩
 cases e' with
 |n=>exact fin hq
 |r=>exact fin hq
 |x i=>exact hq.elim
def exY (P:Program) (tr:Operand->Option A) (o:Oper):Option EX:=
 match o.op with
 |.call c=>match c.callee with
  |.value (.tmp t)=>(tr (.tmp t)).bind fun g=>(yf tr c.args.toList).map (.cally g)
  |_=>ex P tr o
 |_=>ex P tr o
def vU (P:Program) (L:List Nat) (n:Nat):List Oper->List Nat->Option (List O)
 |[],_=>ZV []
 |o::r,e=>
  (trD L n o.dst).bind fun d=>
  if o.guard.isNone&&qi o then
   match px P (FX L e) o with
   |some x=>(vU P L n r (d.more e)).map (.p d x::·)
   |none=>(exY P (FX L e) o).bind fun x=>(vU P L n r (d.more e)).map (.e d x::·)
  else ZU
def fo (P:Program) (L:List Nat) (n:Nat):Code->Option S
 |.skip=>ZV .skip
 |.region _ ops draw=>if draw then ZU else(vU P L n ops.toList []).map .reg
 |.seq a b=>(fo P L n a).bind fun x=>(fo P L n b).map (.seq x ·)
 |.cond c a b=>(FX L [] c).bind fun c=>(fo P L n a).bind fun x=>(fo P L n b).map (.ite c x ·)
 |.block id c=>(fo P L n c).map (.blk id ·)
 |.loop c=>(fo P L n c).map .loop
 |.exit id=>ZV (.exit id)
 |.ret=>ZV .ret
 |_=>ZU
def Nn {tr:Operand->Option A} {r:A->ZR} {x:EX} (hnd:qi o=ZT) (hx:exY P tr o=ZV x) (htr:∀y z,tr y=ZV z->a.eval y=r z)
  {K:ZR->Hp->Prop} (h:x.wp P r w.heap K) {Q:Exit->Act->World->Prop} (hn:∀v w',K v w'.heap->bI w w'->next (a.put o.dst v) w'):o.wpIn (fe ZU) 0 P a w next Q:=by
 have plain:ex P tr o=ZV x->o.wpIn (fe ZU) 0 P a w next Q:=fun hx=>uM ZU hnd (pT hx htr h next Q hn)
 unfold exY at hx
 split at hx
 case h_2=>exact plain hx
 rename_i c hop
 split at hx
 case h_2=>exact plain hx
 rename_i t hc;obtain⟨g,hg,hx⟩:=Option.bind_eq_some_iff.1 hx;obtain⟨as,has,rfl⟩:=Option.map_eq_some_iff.1 hx;obtain⟨l,hv,hy⟩:=h;obtain⟨fn,tmps,UX,body,h1,h2⟩:=hy w rfl;refine⟨fun _ _=>trivial,?_⟩;rw[Oper.semAt_eq _ _ _ (vS hnd)];have hargs:c.args.map a.eval=(as.map r).toArray:=by
  apply Xy;rw[Array.toList_map];exact jz htr has
 have hev:a.eval (.tmp t)=.func (.yield l) #[] #[]:=(htr _ _ hg).trans hv;have hrun:(execOp a.eval o).run P w=.ok (.round l fn tmps UX body) w:=by
  simp only[execOp,hop,resolve,hc,hev,hargs];simp only[go_sem,Deferred.ofValue,Sem.run_bind,Sem.run_pure,Result.andThen,invoke];simpa using h1
 rw[hrun];refine⟨qh ZU,h2.mono ?_⟩;rintro e w' ⟨v,rfl,hk,hs⟩;exact hn _ _ hk hs
def GD {all:Array Oper} {Q:Fr->Hp->Prop} {Q':Exit->Act->World->Prop}
  (hQ:∀f a w,Q f w.heap->Rel D L n a f->bI w0 w->Q' .normal a w):
  ∀(l:List Oper) (ks:List Nat) (l':List O) (e:Env) (f:Fr) (a:Act) (w:World),vU P L n l ks=ZV l'->jy D L n ks e a f->bI w0 w->ops P l' e f w.heap Q->wpListIn (fe ZU) 0 P all Q' l a w:=by
 intro l
 induction l with
 |nil=>
  intro ks l' e f a w hl hr hs h
  cases hl
  exact hQ f a w h hr.toRel hs
 |cons o l ih=>
  intro ks l' e f a w hl hr hs h;simp only[vU]at hl;obtain⟨d,hd,hl⟩:=Option.bind_eq_some_iff.1 hl
  split at hl
  case isFalse=>cases hl
  rename_i hg;simp only[ZJ,Option.isNone_iff_eq_none]at hg;unfold wpListIn;rw[if_pos (by simp[Region.wanted,hg.1])]
  split at hl
  ·rename_i x hx;obtain⟨l2,tN,rfl⟩:=Option.map_eq_some_iff.1 hl;obtain⟨hp,h⟩:=h;refine uM ZU hg.2 ?_;unfold Oper.wp;rw[gv hx hr.rd (fun _=>rfl) hp,Oper.upon_value];exact ih _ _ _ _ _ _ tN (hr.put hd _) hs h
  ·obtain⟨x,hx,hl⟩:=Option.bind_eq_some_iff.1 hl;obtain⟨l2,tN,rfl⟩:=Option.map_eq_some_iff.1 hl;exact Nn hg.2 hx hr.rd h fun v w' hk hw=>ih _ _ _ _ _ _ tN (hr.put hd _) (hs.trans hw) hk
def No:∀(c:Code) (s:S),fo P L n c=ZV s->∀(Q:Ex->Fr->Hp->Prop) (f:Fr) (a:Act) (w:World),vc P s Q f w.heap->Rel D L n a f→
  c.wp P (vu D L n w Q) a w:=by
 intro c
 induction c with
 |skip=>
  intro s hs Q f a w h hr
  cases hs
  exact wp_skip ⟨.n,f,rfl,h,hr,bI.refl w⟩
 |exit id=>
  intro s hs Q f a w h hr
  cases hs
  exact wp_exit ⟨.x id,f,rfl,h,hr,bI.refl w⟩
 |ret=>
  intro s hs Q f a w h hr
  cases hs
  exact wp_ret ⟨.r,f,rfl,h,hr,bI.refl w⟩
 |region id all draw=>
  intro s hs Q f a w h hr;simp only[fo]at hs;have zK:jy D L n [] [] a f:=⟨hr,fun t _ h=>by simp at h⟩
  cases draw with
  |true=>simp at hs
  |false=>
   simp only[ZD,if_false]at hs;obtain⟨l,hl,rfl⟩:=Option.map_eq_some_iff.1 hs;refine(wpIn_wide (n:=0)).1 (wpIn_region_list ?_);exact GD (w0:=w) (Q:=Q .n) (fun f' a' w' hq dD cI=>⟨.n,f',rfl,hq,dD,cI⟩) _ _ _ _ _ _ _ hl zK (bI.refl w) h
 |seq x y ihx ihy=>
  intro s hs Q f a w h hr;simp only[fo]at hs;obtain⟨sx,hx,hs⟩:=Option.bind_eq_some_iff.1 hs;obtain⟨sy,hy,rfl⟩:=Option.map_eq_some_iff.1 hs;refine wp_seq (wp_mono (ihx sx hx _ f a w h hr) ?_);rintro e a' w' ⟨e',f',rfl,hq,dD,cI⟩
  cases e' with
  |n=>exact wp_mono (ihy sy hy _ f' a' w' hq dD) fun _ _ _ h=>oO cI h
  |x id=>exact⟨.x id,f',rfl,hq,dD,cI⟩
  |r=>exact⟨.r,f',rfl,hq,dD,cI⟩
 |cond c x y ihx ihy=>
  intro s hs Q f a w h hr;simp only[fo]at hs;obtain⟨c',hc,hs⟩:=Option.bind_eq_some_iff.1 hs;obtain⟨sx,hx,hs⟩:=Option.bind_eq_some_iff.1 hs;obtain⟨sy,hy,rfl⟩:=Option.map_eq_some_iff.1 hs;have zK:jy D L n [] [] a f:=⟨hr,fun t _ h=>by simp at h⟩
  obtain⟨hb,h1,h2⟩:=h;have he:=(zK.rd _ _ hc).trans (gh hb);exact wp_cond_split he (fun ht=>ihx sx hx _ f a w (h1 ht) hr) (fun ht=>ihy sy hy _ f a w (h2 ht) hr)
 |block id c ih=>
  intro s hs Q f a w h hr;simp only[fo]at hs;obtain⟨sx,hx,rfl⟩:=Option.map_eq_some_iff.1 hs;refine wp_block (wp_mono (ih sx hx _ f a w h hr) ?_);rintro e a' w' ⟨e',f',rfl,hq,dD,cI⟩
  cases e' with
  |n=>exact⟨.n,f',rfl,hq,dD,cI⟩
  |x i=>
   simp only[uj]at hq;simp only[Ex.to,Exit.inBlock]
   split
   ·rename_i hi;rw[if_pos hi]at hq;exact⟨.n,f',rfl,hq,dD,cI⟩
   ·rename_i hi;rw[if_neg hi]at hq;exact⟨.x i,f',rfl,hq,dD,cI⟩
  |r=>exact⟨.r,f',rfl,hq,dD,cI⟩
 |loop c ih=>
  intro s hs Q f a w h hr;simp only[fo]at hs;obtain⟨sx,hx,rfl⟩:=Option.map_eq_some_iff.1 hs;obtain⟨I,⟨m,h0⟩,hround⟩:=h;refine wp_loop_ghost (fun k a' w'=>∃f',I k f' w'.heap/\Rel D L n a' f'/\bI w w') m ⟨f,h0,hr,bI.refl w⟩ ?_;rintro k a1 w1 ⟨f1,hI,hr1,hs1⟩;refine wp_mono (ih sx hx _ f1 a1 w1 (hround k f1 w1.heap hI) hr1) ?_;rintro e a' w' ⟨e',f',rfl,hq,dD,cI⟩
  cases e' with
  |n=>
   obtain⟨m',hm,hI'⟩:=hq;exact⟨m',hm,f',hI',dD,hs1.trans cI⟩
  |x i=>exact⟨.x i,f',rfl,hq,dD,hs1.trans cI⟩
  |r=>exact⟨.r,f',rfl,hq,dD,hs1.trans cI⟩
 |_=>intro s hs;cases hs
def LA (P:Program) (fn:Func):Option (S×List RV):=
 fn.body.bind fun c=>(fo P (yF fn) fn.ntmps c).bind fun s=>(fn.results.toList.mapM (UC P (yF fn))).map fun rs=>(s,rs)
structure mF (P:Program) (k:FuncId) (s:S) (rs:List RV) (np:Nat):Prop where
 ok:∃fn c L,P.funcs[k]?=ZV fn/\fn.body=ZV c/\fo P L fn.ntmps c=ZV s/\fn.results.toList.mapM (UC P L)=ZV rs/\np<=fn.ntmps
 body:bS P k=ZT
def mF.mk' (hf:P.funcs[k]?=ZV fn) (hc:LA P fn=ZV (s,rs)) (hn:ZQ (np<=fn.ntmps)=ZT)
  (hb:(fn.name== "runtime.NumGoroutine")=ZS):mF P k s rs np:=by
 unfold LA at hc;obtain⟨c,h1,hc⟩:=Option.bind_eq_some_iff.1 hc;obtain⟨s',h2,hc⟩:=Option.bind_eq_some_iff.1 hc;obtain⟨rs',h3,hc⟩:=Option.map_eq_some_iff.1 hc
 cases hc
 refine⟨⟨fn,c,_,hf,h1,h2,h3,of_decide_eq_true hn⟩,?_⟩;simp[bS,hf,h1,hb]
def Aq (hk:mF P k s rs np) {args:List ZR} (ha:args.length<=np)
  (h:vc P s (kr rs R) (look (fK 0 args)) H):an P k args.toArray H R:=by
 obtain⟨⟨fn,c,L,hf,hb,ht,hres,hn⟩,_⟩:=hk;intro w hw;refine calls_of_wp hf hb ?_;have Lz:∀t,look (fK 0 args) t=args.getD t undef:=fun t=>by have:=kt args 0 t;rwa [Zt]at this
 have hr:Rel [] L fn.ntmps {tmps:=args.toArray++Yz (fn.ntmps -args.toArray.size) undef,defers:=[]} (look (fK 0 args)):=by
  refine⟨rfl,by simp;omega,fun t _=>?_⟩;rw[Lz,Yl,ZP]
  by_cases ht:t<args.length
  ·simp[Yn,ht]
  ·rw[Yn,if_neg (by simpa using ht),Zz (by omega)];simp only[WE]
   split<;>rfl
 refine wp_mono (No c s ht _ _ _ w (hw▸h) hr) ?_;rintro e a' w' ⟨e',f',rfl,hq,dD,cI⟩;have fin:kr rs R .r f' w'.heap->∃v,(results fn a'.tmps).run P w'=.ok v w'/\∃v',Ending.returned v=.returned v'/\R v' w'.heap/\bI w w':=by
  rintro⟨h1,h2⟩;exact⟨_,tT dD hres h1,_,rfl,h2,cI⟩
 cases e' with
 |n=>obtain⟨v,g1,v',g2,g3,g4⟩:=fin hq;exact⟨dD.d,v,g1,v',g2,g3,g4⟩
 |r=>obtain⟨v,g1,v',g2,g3,g4⟩:=fin hq;exact⟨dD.d,v,g1,v',g2,g3,g4⟩
 |x i=>exact hq.elim
def i6.bE (h:i6 l H H') {A:Hp} {W:Nat->Prop} (k:af W A H) (hl:A.size<=l):af W A H':=
 k.trans' h.ai (fun i hi e=>by omega)
def LB {a:A} {body:S} {gf:FuncId} {lb:Array ZR} {xs:List ZR} {G:Hp->Prop} (W:Nat->Prop) (I:Nat->Hp->Prop) (X:Ex->Hp->Prop)
  (hv:a.rd [] f=.func (.func gf) #[] lb) (hb:bS P gf=ZT) (hit:Ld P gf lb xs G) (hW:∀k,W k->k<H.size)
  (hG:∀k H',af W H H'->I k H'->G H')
  (h0:∀H0,af (fun _=>False) H H0->H.size+2<=H0.size->I 0 H0)
  (hst:∀k H1 H2,H.size+2<=H1.size->af W H H1->I k H1->af (fun b=>b=H.size+1) H1 H2->I k H2)
  (hsx:∀e H1 H2,H.size+2<=H1.size->af W H H1->X e H1->af (fun b=>b=H.size+1) H1 H2->X e H2)
  (hr:∀k H1,k<xs.length->af W H H1->H.size+2<=H1.size->I k H1->vc P body (fun e _ H2=>af (fun b=>W b\/H.size+2<=b) H1 H2/\match e with|.n=>I (k+1) H2|e=>X e H2) (bR (bR f p (xs.getD k undef)) i (xs.getD k undef)) H1)
  (hdone:∀H1,af W H H1->H.size+2<=H1.size->H1[H.size]?=ZV (.deferred (ZV []))->I xs.length H1->Q .n (bR f g (pS (f g) H.size)) H1)
  (hleft:∀e H1,af W H H1->H.size+2<=H1.size->H1[H.size]?=ZV (.deferred (ZV []))->X e H1->Q e (bR f g (pS (f g) H.size)) H1):vc P (.rf g a p i body) Q f H:=by
 refine⟨gf,lb,xs,G,fun k H'=>af W H H'/\H.size+2<=H'.size/\H'[H.size]?=ZV (.deferred (ZV []))/\I k H',fun e H'=>af W H H'/\H.size+2<=H'.size/\H'[H.size]?=ZV (.deferred (ZV []))/\X e H',⟨hv,hb,hit⟩,?_,?_,⟨?_,?_⟩,?_,?_,?_⟩
 ·rintro k H' ⟨h1,_,_,h4⟩;exact hG k H' h1 h4
 ·intro H0 hs hk hd;have K:af (fun _=>False) H H0:=⟨by omega,fun k h _=>hk k h⟩
  exact⟨K.any,by omega,hd,h0 H0 K (by omega)⟩
 ·rintro k H1 H2 ⟨h1,h2,h3,h4⟩ ho;exact⟨ho.bE h1 (by omega),by rw[ho.1];exact h2,by rw[ho.2 _ (by omega)];exact h3,hst k H1 H2 h2 h1 h4 ho.ai⟩
 ·rintro e H1 H2 ⟨h1,h2,h3,h4⟩ ho;exact⟨ho.bE h1 (by omega),by rw[ho.1];exact h2,by rw[ho.2 _ (by omega)];exact h3,hsx e H1 H2 h2 h1 h4 ho.ai⟩
 ·rintro k H1 hk ⟨h1,h2,h3,h4⟩;refine Lj ?_ (hr k H1 hk h1 h2 h4);rintro e f' H2 ⟨K,hq⟩;have hl:¬(W (H.size+1)\/H.size+2<=H.size+1):=by
   rintro(h|h)
   ·have:=hW _ h;omega
   ·omega
  have hd:¬(W H.size\/H.size+2<=H.size):=by
   rintro(h|h)
   ·have:=hW _ h;omega
   ·omega
  have KW:af W H H2:=h1.trans' K (fun i hi h=>h.resolve_right (by omega));have hs:H.size+2<=H2.size:=Nat.le_trans h2 K.size;have hd2:H2[H.size]?=ZV (.deferred (ZV [])):=by rw[K.at_ _ (by omega) hd];exact h3
  refine⟨K.at_ _ (by omega) hl,?_⟩
  cases e with
  |n=>exact⟨KW,hs,hd2,hq⟩
  |x id=>exact⟨KW,hs,hd2,hq⟩
  |r=>exact⟨KW,hs,hd2,hq⟩
 ·rintro H1 ⟨h1,h2,h3,h4⟩;exact hdone H1 h1 h2 h3 h4
 ·rintro e H1 ⟨h1,h2,h3,h4⟩;exact hleft e H1 h1 h2 h3 h4
@[go_sem] theorem ajg (g:Nat) (rs:List RV) (R) (f:Fr) (H:Hp):oy g rs R .n f H=((l8 (f g)).Nodup/\(∀m∈l8 (f g),H[m]?=ZV (.deferred (ZV [])))∧
  ∀H':Hp,H'.size=H.size->(∀k,k∉l8 (f g)->H'[k]?=H[k]?)->dQ f H' rs/\R (dR f H' rs) H'):=rfl
@[go_sem] theorem ajh (g:Nat) (rs:List RV) (R) (f:Fr) (H:Hp):oy g rs R .r f H=((l8 (f g)).Nodup/\(∀m∈l8 (f g),H[m]?=ZV (.deferred (ZV [])))∧
  ∀H':Hp,H'.size=H.size->(∀k,k∉l8 (f g)->H'[k]?=H[k]?)->dQ f H' rs/\R (dR f H' rs) H'):=rfl
def dX:l8 undef=[]:=rfl
attribute [go_sem] jI dX
def af.marks {ms:List Nat} (hs:H'.size=H.size) (hk:∀k,k∉ms->H'[k]?=H[k]?):af (fun k=>k∈ms) H H':=⟨by omega,fun k _ h=>hk k h⟩
end Go.Mg
