/- Lemmas of ours. No conditions. -/
import Derived.Test.YtkfikjdbdfekfabDoorMgVc
import Derived.OrdersHeld
namespace Go.Mg
open Go Go.RowKit
structure Rel (D:List Deferred) (L:List Nat) (n:Nat) (a:Act) (f:Fr):Prop where
 d:a.defers=D
 s:a.tmps.size=n
 l:∀t,L.contains t=true->a.tmps.getD t undef=f t
structure dm (D:List Deferred) (L:List Nat) (n:Nat) (ks:List Nat) (e:Env) (a:Act) (f:Fr):Prop extends Rel D L n a f where
 e:∀t,L.contains t=false->ks.contains t=true->a.tmps.getD t undef=look e t
theorem l4 (a:Act) (d:Nat) (hd:d<a.tmps.size) (x:Value) (t:Nat):(a.put (some d) x).tmps.getD t undef=if t=d then x else a.tmps.getD t undef:=by
 simp only[Act.put,Array.getD_eq_getD_getElem?,Array.getElem?_setIfInBounds]
 by_cases h:t=d
 ·subst h;simp[hd]
 ·rw[if_neg (fun e=>h e.symm),if_neg h]
variable {D:List Deferred} {L ks:List Nat} {n:Nat} {e:Env} {a:Act} {f:Fr} {o:Oper} {all:Array Oper} {x v:Value} {P:Program} {w w' w0:World} {t:TypeId} {xs:Array Value} {tr:Operand->Option A} {r:A->Value} {K:Value->Hp->Prop} {Q:Fr->Hp->Prop} {Q':Exit->Act->World->Prop}
theorem dm.put (h:dm D L n ks e a f) {o:Option Tmp} {d:Mg.D} (hd:qT L n o=some d) (x:Value):
  dm D L n (d.more ks) (d.env x e) (a.put o x) (d.fr x f):=by
 cases o with
 |none=>cases hd;exact h
 |some t=>
  simp only[qT]at hd
  split at hd
  case isFalse=>cases hd
  rename_i ht;have hs:t<a.tmps.size:=by rw[h.s];exact ht
  have dT:=l4 a t hs x
  split at hd<;>cases hd<;>rename_i hc
  ·refine⟨⟨h.d,by simp[Act.put,h.s],fun u hu=>?_⟩,fun u hu hk=>?_⟩
   ·rw[dT];simp only[Mg.D.fr,ng];split
    ·rfl
    ·exact h.l u hu
   ·rw[dT,if_neg (by rintro rfl;rw[hc]at hu;cases hu)];exact h.e u hu hk
  ·refine⟨⟨h.d,by simp[Act.put,h.s],fun u hu=>?_⟩,fun u hu hk=>?_⟩
   ·rw[dT,if_neg (by rintro rfl;exact hc hu)];exact h.l u hu
   ·rw[dT];simp only[Mg.D.env,look];split
    ·rfl
    ·rename_i jT;refine h.e u hu ?_;simp only[Mg.D.more,List.contains_cons,Bool.or_eq_true,beq_iff_eq]at hk;exact hk.resolve_left jT
theorem dm.rd (h:dm D L n ks e a f):∀y z,nD L ks y=some z->a.eval y=z.rd e f:=by
 intro y z hz
 cases y<;>simp only[nD]at hz
 case tmp t=>
  split at hz
  ·rename_i hc;cases hz;exact h.l t hc
  ·rename_i hc;split at hz
   ·rename_i hk;cases hz;exact h.e t (by simpa using hc) hk
   ·cases hz
 all_goals (cases hz;rfl)
theorem dm.gb (h:dm D L n ks e a f) {g:Option (A×Bool)} (hg:qU L ks all o.guard=some g):
  Region.wanted o (yielded all a.tmps)=lI g e f:=by
 cases ho:o.guard with
 |none=>rw[ho]at hg;cases hg;simp[Region.wanted,ho,lI]
 |some p=>
  obtain⟨j,b⟩:=p;rw[ho]at hg;simp only[qU]at hg
  split at hg
  case h_2=>cases hg
  rename_i t ht;obtain⟨x,hx,rfl⟩:=Option.map_eq_some_iff.1 hg;have hv:=h.rd _ _ hx;simp only[Act.eval]at hv;simp only[Region.wanted,ho,yielded,ht,Option.bind_some,lI];rw[<-hv,Array.getD_eq_getD_getElem?]
  cases hq:a.tmps[t]? with
  |none=>simp[Mg.gb,undef]
  |some v=>cases v<;>simp[Mg.gb]
theorem ck {tr:Operand->Option A} {r:A->Value} {ρ:Operand->Value} (htr:∀y z,tr y=some z->ρ y=r z):∀{l:List Operand} {l':List A},gr tr l=some l'->l.map ρ=l'.map r
 |[],l',h=>by cases h;rfl
 |x::l,l',h=>by
  simp only[gr,bind,Option.bind_eq_some_iff]at h;obtain⟨z,hz,zs,rX,h⟩:=h
  cases h
  simp[htr _ _ hz,ck htr rX]
theorem fB (h:x.oneCell'=true):x.cells=#[x]:=by
 cases x<;>first|rfl|cases h
theorem add_zero' (p:Addr):p.add 0=p:=by simp[Addr.add]
theorem gu {p:Addr} (ht:P.cellsOf t=1) (h1:(cell w.heap p).isSome=true) (h2:cE w.heap p=false) (h3:x.oneCell'=true):
  (storeVar t p x).run P w=.ok () (w.setCell p x):=by
 have hs:=bM P t (by omega) w;simp only[storeVar,Sem.run_bind,hs,Result.andThen,ht,fB h3];simp[storeCells,add_zero',fJ h1 h2 h3]
theorem bu {s:Sem Value} (h:s.run P w=.ok v w'):(do pure (.value (←s)):Sem Next).run P w=.ok (.value v) w':=by
 simp only[Sem.run_bind,h,Result.andThen,Sem.run_pure]
theorem jU {s:Sem Unit} (h:s.run P w=.ok () w'):(do s;pure .skip:Sem Next).run P w=.ok .skip w':=by
 simp only[Sem.run_bind,h,Result.andThen,Sem.run_pure]
theorem eH (h:aT v\/cR v):(Builtin.lenOf v).run P w=.ok (aF v) w:=by
 cases v<;>first|rfl|(rcases h with h|h<;>exact h.elim)
theorem aO {size:Nat} (h:bD w.heap v (n*size)=some xs) (hs:cR v->size=1):(Builtin.firstCells size n v).run P w=.ok xs w:=by
 cases v with
 |slice a l c=>
  cases a with
  |none=>cases h;rfl
  |some p=>
   simp only[bD]at h;simp only[Builtin.firstCells]
   split at h
   ·rename_i h0;cases h;rw[h0];rfl
   ·exact dW h
 |string s=>
  have:=hs trivial;subst this;simp only[bD,Nat.mul_one,Option.some.injEq]at h;subst h
  rfl
 |_=>cases h
theorem gv {a:Option Addr} {off:Nat} (h:b6 w.heap a off xs):
  (do if let some p:=a then storeCells (p.add off) xs.toList:Sem PUnit).run P w=.ok () {w with heap:=bE w.heap a off xs}:=by
 cases a with
 |none=>rfl
 |some p=>
  simp only[b6]at h;obtain⟨h1,h2⟩:=h;simp only[bE]
  by_cases h0:xs.size=0
  ·rw[if_pos h0];have:xs=#[]:=Array.eq_empty_of_size_eq_zero h0;subst this
   rfl
  ·rw[if_neg h0];have h3:=h2.resolve_left h0;exact jN (xs:=xs.toList) (by simpa using h3) h1
theorem l5 (z:Array Value) (n:Nat):Builtin.zeroCells z n=rep z (n*z.size):=rfl
theorem iz {f:FuncId} {args:Array Value} (hb:cK P f=true):(callFunc f args).run P w=.ok (.enter f args) w:=by
 unfold cK at hb
 split at hb
 ·rename_i fn hf;simp only[Bool.and_eq_true,Bool.not_eq_true']at hb;have hb2:fn.body.isNone=false:=by
   have:=hb.1
   cases vT:fn.body<;>simp[vT]at this⊢
  simp only[callFunc,program,Sem.run_bind,Sem.run,Result.andThen,hf];rw[if_neg (by simp[hb.2]),if_neg (by simp[hb2])]
  rfl
 ·cases hb
theorem nH {src dst e:TypeId} {q:ByteArray} (hs:P.underlying src=some .string) (hd:P.underlying dst=some (.slice e)) (he:P.underlying e=some (.int .u8)):
  (convert src dst (.string q)).run P w=.ok (.slice (some ⟨w.heap.size,0,none⟩) q.size (grownCap w q.size 0 e))
   {w with heap:=w.heap.push (.cells (byteCells q++Array.replicate (grownCap w q.size 0 e -q.size) (.int .u8 0)) e (grownCap w q.size 0 e,grownCap w q.size 0 e+1)),drawn:=w.drawn+1}:=by
 have hc:q.size<=grownCap w q.size 0 e:=by simp only[grownCap,Question.cut];omega
 have hn:(bytesRow q (grownCap w q.size 0 e)).size=grownCap w q.size 0 e:=by
  have h1:(bytesRow q (grownCap w q.size 0 e)).size=q.data.size+(grownCap w q.size 0 e -q.size):=by simp[bytesRow]
  have h2:q.data.size=q.size:=rfl;omega
 rw[run_bytes_of_string w src dst e q hs hd he,hn]
 rfl
theorem fO {tr:Operand->Option A} {size:Nat}:∀{parts:List (Nat×Operand)} {ps:List A} {k:Nat},c7 k parts=true->gr tr (parts.map (·.2))=some ps→
  bk tr (fun k=>some (k*size,size)) parts=some (ps.zipIdx k|>.map fun p=>(p.2*size,size,p.1))
 |[],ps,k,_,h=>by cases h;rfl
 |(i,x)::l,ps,k,hs,h=>by
  simp only[c7,Bool.and_eq_true,beq_iff_eq]at hs;simp only[List.map_cons,gr,bind,Option.bind_eq_some_iff]at h;obtain⟨z,hz,zs,rX,h⟩:=h
  cases h
  have ih:=fO (size:=size) hs.2 rX;obtain⟨rfl,_⟩:=hs;simp[bk,hz,ih]
theorem iA {r:A->Value} {size:Nat}:∀{ps:List A} {k:Nat} {C:Array Value},(∀a∈ps,(r a).cells.size=size)->C.size=(k+ps.length)*size→
  bN r C.size (ps.zipIdx k|>.map fun p=>(p.2*size,size,p.1))/\bW r C (ps.zipIdx k|>.map fun p=>(p.2*size,size,p.1))=(C.toList.take (k*size)++ps.flatMap fun a=>(r a).cells.toList).toArray
 |[],k,C,_,hC=>by
  refine⟨trivial,?_⟩;have:C.toList.length<=k*size:=by simp at hC;simp;omega
  simp[bW,List.take_of_length_le this]
 |a::ps,k,C,h,hC=>by
  have ha:=h a (by simp);simp only[List.length_cons]at hC;have e1:(k+(ps.length+1))*size=k*size+size+ps.length*size:=by
   rw[Nat.add_mul,Nat.add_mul];omega
  have hl:k*size+(r a).cells.toList.length<=C.size:=by simp[ha];omega
  have hw:(gg C (k*size) (r a).cells.toList).size=C.size:=hP hl;obtain⟨i1,i2⟩:=iA (r:=r) (size:=size) (ps:=ps) (k:=k+1) (C:=gg C (k*size) (r a).cells.toList) (fun b hb=>h b (by simp[hb])) (by rw[hw,hC];congr 1;omega);refine⟨⟨ha,by simpa[ha]using hl,by rw[hw]at i1;exact i1⟩,?_⟩;simp only[List.zipIdx_cons,List.map_cons,bW];rw[i2]
  congr 1
  have:(gg C (k*size) (r a).cells.toList).toList.take ((k+1)*size)=C.toList.take (k*size)++(r a).cells.toList:=by
   have e2:(k+1)*size=k*size+size:=by rw[Nat.add_mul];omega
   have hk:(C.toList.take (k*size)).length=k*size:=by simp;omega
   simp only[gg];have e3:(C.toList.take (k*size)++(r a).cells.toList).length=k*size+size:=by simp[ha];omega
   rw[e2,<-e3];exact List.take_left
  rw[this];simp
theorem iZ {u e:TypeId} {ty:TypeId} {i:TypeInfo} {z:Value} {d:TypeDesc} {sv xv:Value} (hu:P.underlying t=some (.slice e)) (hi:P.info? e=some i) (hz:i.zero=some z) 
  (hud:P.underlying u=some d) (hd:d=.string\/∃e',d=.slice e') (hsl:sv=.slice (bC sv) (av sv) (bp sv)) (hx:aT xv\/cR xv) (hx1:cR xv->i.size=1)
  (h3:av sv+aF xv<=maxLen) (h4:(av sv+aF xv)*i.bytes<=140737488355328) {news:Array Value} (hnews:bD w.heap xv (aF xv*i.size)=some news):
  (av sv+aF xv<=bp sv->b6 w.heap (bC sv) (av sv*i.size) news→
   (Builtin.append_ #[t,u] ty #[sv,xv]).run P w=.ok (.slice (bC sv) (av sv+aF xv) (bp sv)) {w with heap:=bE w.heap (bC sv) (av sv*i.size) news})∧
  (bp sv<av sv+aF xv->∀olds,bD w.heap sv (av sv*i.size)=some olds→
   (Builtin.append_ #[t,u] ty #[sv,xv]).run P w=.ok (.slice (some ⟨w.heap.size,0,none⟩) (av sv+aF xv) (grownCap w (av sv+aF xv) (bp sv) e))
    {w with heap:=w.heap.push (.cells (olds++news++rep z.cells ((grownCap w (av sv+aF xv) (bp sv) e -(av sv+aF xv))*z.cells.size)) e),drawn:=w.drawn+1}):=by
 have vU:∀w,(zeroValue e).run P w=.ok z w:=fun w=>by simp[zeroValue,typeInfo,program,Sem.run,hi,hz,Sem.run_bind,Result.andThen]
 have vV:P.cellsOf e=i.size:=by simp[Program.cellsOf,hi]
 have ko:∀w,(sizeOf e).run P w=.ok i.size w:=fun w=>by rw[aj P e (show(P.info? e).isSome=true by simp[hi]),vV]
 have vW:∀w,(typeInfo e).run P w=.ok i w:=fun w=>by simp[typeInfo,program,Sem.run,hi,Sem.run_bind,Result.andThen]
 generalize u3:bC sv=ad at*;generalize u4:av sv=ls at*;generalize xG:bp sv=cs at*;subst hsl;have vX:¬(((ls+aF xv:Nat):Int)>IntKind.i64.max):=by
  have:IntKind.i64.max=9223372036854775807:=by decide
  unfold maxLen at h3;omega
 constructor
 ·intro kt dT;have hf:=aO (P:=P) (w:=w) (size:=i.size) (n:=aF xv) hnews hx1;have hp:=gv (P:=P) (w:=w) dT;rcases hd with rfl|⟨e',rfl⟩
  all_goals
   simp only[Builtin.append_];simp only[List.getElem?_toArray,List.getElem?_cons_zero,List.getElem?_cons_succ];simp only[Sem.run_bind,run_underlying hu,Result.andThen,ko,run_underlying hud,Sem.run_pure,Bool.false_eq_true,if_false,eH hx,kt,if_true,Bool.not_false,hf]
   cases ad with
   |none=>rfl
   |some p=>
    simp only[Sem.run_bind,Result.andThen]at hp⊢;rw[hp]
    rfl
 ·intro qY olds holds;have hn:¬(ls+aF xv<=cs):=by omega
  have hf:=aO (P:=P) (w:={w with drawn:=w.drawn+1}) (size:=i.size) (n:=aF xv) hnews hx1;have vY:=aO (P:=P) (w:={w with drawn:=w.drawn+1}) (v:=.slice ad ls cs) (size:=i.size) (n:=ls) holds (fun h=>h.elim);have kt:¬(Builtin.nextslicecap (ls+aF xv) cs*i.bytes>2^48):=by
   have:=growslice_fits qY h4;have u5:(2^48:Nat)=281474976710656:=by decide
   omega
  rcases hd with rfl|⟨e',rfl⟩
  all_goals
   simp only[Builtin.append_];simp only[List.getElem?_toArray,List.getElem?_cons_zero,List.getElem?_cons_succ];simp only[Sem.run_bind,run_underlying hu,Result.andThen,ko,run_underlying hud,Sem.run_pure,Bool.false_eq_true,if_false,eH hx,hn,vX,false_and,vW,kt];simp only[choose,Sem.run,Question.forced,Bool.false_eq_true,if_false,run_askRoom,vY,hf,Bool.not_false,if_true,vU,newRow,newObj,Sem.run_bind,Result.andThen,Sem.run_pure]
   rfl
theorem eI {x:EX} (hx:ex P tr o=some x) (htr:∀y z,tr y=some z->a.eval y=r z)
 (h:x.wp P r w.heap K):qK P o a w K:=by
 intro next Q hn
 have skip:∀{w':World},(execOp a.eval o).run P w=.ok .skip w'->K undef w'.heap->aI w w'->o.upon P a next Q ((execOp a.eval o).run P w):=by
  intro w' hrun hk hs;rw[hrun,Oper.upon_skip];exact hn _ _ hk hs
 have value:∀{v:Value} {w':World},(execOp a.eval o).run P w=.ok (.value v) w'->K v w'.heap->aI w w'->o.upon P a next Q ((execOp a.eval o).run P w):=by
  intro v w' hrun hk hs;rw[hrun,Oper.upon_value];exact hn _ _ hk hs
 have enter:∀{f:FuncId} {args:Array Value},(execOp a.eval o).run P w=.ok (.enter f args) w->ai P f args w.heap K->o.upon P a next Q ((execOp a.eval o).run P w):=by
  intro f args hrun hk;rw[hrun,Oper.upon_enter];exact(hk w rfl).mono fun e w' ⟨v,he,hk,hs⟩=>by subst he;exact hn _ _ hk hs
 unfold ex at hx
 split at hx
 ·-- store
  rename_i t y z hop;obtain⟨y',hy,hx⟩:=Option.bind_eq_some_iff.1 hx;obtain⟨z',hz,hx⟩:=Option.bind_eq_some_iff.1 hx;have ey:=htr _ _ hy;have ez:=htr _ _ hz
  split at hx
  ·rename_i nv
   cases hx
   obtain⟨⟨h1,h2,u1⟩,h3⟩:=h;unfold sN at h1;unfold pq at h3
   split at h1
   case h_2=>exact h1.elim
   rename_i p hp;rw[hp]at h3;refine skip (w':={w with heap:=a6 w.heap p (r z').cells.toList}) ?_ h3 ⟨rfl,rfl,rfl⟩;simp only[execOp,hop,ey,ez,hp];refine jU ?_;have hs:=aj P t (bq nv w).2 w;simp only[Instr.storeAt,Instr.sureAddr,Sem.run_bind,Sem.run_pure,Result.andThen,storeVar,hs,h2,ne_eq,not_true_eq_false,if_false];exact jN (xs:=(r z').cells.toList) (by simpa[h2]using h1) u1
  ·split at hx
   case isFalse=>cases hx
   rename_i ko
   split at hx
   case isFalse=>cases hx
   cases hx
   obtain⟨⟨h1,h2⟩,h3⟩:=h;unfold nC at h1;unfold sT at h3
   split at h1
   case h_2=>exact h1.elim
   rename_i p hp;rw[hp]at h3;refine skip (w':=w.setCell p (r z')) ?_ h3 ⟨rfl,rfl,rfl⟩;simp only[execOp,hop,ey,ez,hp];refine jU ?_;simp only[Instr.storeAt,Instr.sureAddr,Sem.run_bind,Sem.run_pure,Result.andThen];exact gu ko h1.1 h1.2 h2
 ·-- alloc
  rename_i t hop
  split at hx
  case h_2=>cases hx
  rename_i z hz
  cases hx
  obtain⟨i,hi,hz⟩:=Option.bind_eq_some_iff.1 hz;refine value (v:=.pointer (some ⟨w.heap.size,0,none⟩)) (w':={w with heap:=w.heap.push (.cells z.cells t)}) ?_ h ⟨rfl,rfl,rfl⟩;simp only[execOp,hop];refine bu ?_;simp[Instr.alloc,zeroValue,typeInfo,program,Sem.run,hi,hz,newVar,newRow,newObj,Sem.run_bind,Result.andThen]
 ·-- box
  rename_i t y hop;obtain⟨y',hy,rfl⟩:=Option.map_eq_some_iff.1 hx;refine value (v:=.pointer (some ⟨w.heap.size,0,none⟩)) (w':={w with heap:=w.heap.push (.cells (r y').cells t)}) ?_ h ⟨rfl,rfl,rfl⟩;simp only[execOp,hop,htr _ _ hy];refine bu ?_;simp[Instr.box,Sem.run,newVar,newRow,newObj,Result.andThen]
 ·-- buildSlice
  rename_i t len parts hop
  split at hx
  case h_2=>cases hx
  rename_i e hu;obtain⟨i,hi,hx⟩:=Option.bind_eq_some_iff.1 hx;obtain⟨z,hz,hx⟩:=Option.bind_eq_some_iff.1 hx
  split at hx
  ·rename_i h00
   cases hx
   obtain⟨rfl,xH⟩:=h00;have vZ:parts=#[]:=by cases parts with|mk l=>cases l<;>simp_all
   subst vZ;refine value (v:=.slice (some ⟨w.heap.size,0,none⟩) 0 0) (w':={w with heap:=w.heap.push (.cells #[] e)}) ?_ h.2 ⟨rfl,rfl,rfl⟩;simp only[execOp,hop];refine bu ?_;simp only[Instr.buildSlice,Sem.run_bind,run_underlying hu,Result.andThen,aj P e (show(P.info? e).isSome=true by simp[hi]),Nat.zero_mul,if_true];have e0:Array.range 0=#[]:=rfl;simp[newRow,newObj,Sem.run,Instr.fill,e0,Result.andThen]
  split at hx
  case isFalse=>cases hx
  rename_i hlen;have ko:P.cellsOf e=i.size:=by simp[Program.cellsOf,hi]
  have hzero:(zeroValue e).run P w=.ok z w:=by simp[zeroValue,typeInfo,program,Sem.run,hi,hz,Sem.run_bind,Result.andThen]
  have core:∀(ps:List (Nat×Nat×A)),bk tr (fun k=>some (k*i.size,i.size)) parts.toList=some ps->bN r (rep z.cells (len*i.size)).size ps→
    (execOp a.eval o).run P w=.ok (.value (.slice (some ⟨w.heap.size,0,none⟩) len len)) {w with heap:=w.heap.push (.cells (bW r (rep z.cells (len*i.size)) ps) e)}:=by
   intro ps lH hok;have hf:=cY (rep z.cells (len*i.size)) lH htr hok;simp only[execOp,hop];refine bu ?_;have v7:¬(len*i.size>2^24):=by have:=hlen.1;omega
   have h0:¬(len*i.size=0):=by omega
   simp only[Instr.buildSlice,Sem.run_bind,run_underlying hu,Result.andThen,aj P e (by simp[hi]),ko,v7,h0,if_false,hzero,Sem.run_pure,Array.toList_map];have e2:(Array.range (len*i.size)).map (fun x=>z.cells[x % z.cells.size]!)=rep z.cells (len*i.size):=rfl;rw[e2,hf];simp[newRow,newObj,Sem.run]
  split at hx
  ·rename_i pJ;simp only[Bool.and_eq_true,beq_iff_eq]at pJ;obtain⟨ps,lH,rfl⟩:=Option.map_eq_some_iff.1 hx;obtain⟨h1,h2⟩:=h;have qO:ps.length=len:=by
    have:=congrArg List.length (ck htr lH);simp only[List.length_map]at this;rw[<-this,Array.length_toList];exact pJ.2
   obtain⟨f1,f2⟩:=iA (r:=r) (size:=i.size) (ps:=ps) (k:=0) (C:=rep z.cells (len*i.size)) h1 (by simp[rep,qO]);refine value (core _ (fO pJ.1 lH) f1) ?_ ⟨rfl,rfl,rfl⟩;rw[f2];simpa using h2
  ·obtain⟨ps,lH,rfl⟩:=Option.map_eq_some_iff.1 hx;exact value (core _ lH h.1) h.2 ⟨rfl,rfl,rfl⟩
 ·-- makeSlice
  rename_i t l c hop;obtain⟨l',hl,hx⟩:=Option.bind_eq_some_iff.1 hx;obtain⟨c',hc,hx⟩:=Option.bind_eq_some_iff.1 hx
  split at hx
  case h_2=>cases hx
  rename_i e hu;obtain⟨i,hi,hx⟩:=Option.bind_eq_some_iff.1 hx;obtain⟨z,hz,hx⟩:=Option.bind_eq_some_iff.1 hx
  cases hx
  obtain⟨⟨h1,h2,h3,h4,h5,h6⟩,h7⟩:=h;have ko:P.cellsOf e=i.size:=by simp[Program.cellsOf,hi]
  have hzero:(zeroValue e).run P w=.ok z w:=by simp[zeroValue,typeInfo,program,Sem.run,hi,hz,Sem.run_bind,Result.andThen]
  refine value (v:=.slice (some ⟨w.heap.size,0,none⟩) (r l').i.toNat (r c').i.toNat) (w':={w with heap:=w.heap.push (.cells (rep z.cells ((r c').i.toNat*i.size)) e)}) ?_ h7 ⟨rfl,rfl,rfl⟩;simp only[execOp,hop,htr _ _ hl,htr _ _ hc];refine bu ?_;obtain⟨k,hk⟩:=ak h1;obtain⟨k',pz⟩:=ak h2;generalize(r l').i=m at*;generalize(r c').i=n at*;rw[hk,pz];unfold maxLen at h6;have wm:IntKind.i64.wrap m=m:=IntWalk.i64_in m ⟨by omega,by omega⟩;have wn:IntKind.i64.wrap n=n:=IntWalk.i64_in n ⟨by omega,by omega⟩;have ti:(typeInfo e).run P w=.ok i w:=by simp[typeInfo,program,Sem.run,hi,Sem.run_bind,Result.andThen]
  have t1:(decide (n<0)||decide ((i.bytes:Int)*n>2^48))=false:=by
   have u5:(2^48:Int)=281474976710656:=by decide
   simp only[Bool.or_eq_false_iff,decide_eq_false_iff_not,u5];omega
  have t2:(decide (n<0)||decide ((i.bytes:Int)*n>2^48)||decide (m<0)||decide (m>n))=false:=by
   rw[t1];simp only[Bool.false_or,Bool.or_eq_false_iff,decide_eq_false_iff_not];omega
  simp only[Instr.makeSlice,Sem.run_bind,run_underlying hu,Result.andThen,asInt,asIntOf,Sem.run_pure,ti,wm,wn,t2,Bool.false_eq_true,if_false];simp only[run_askRoom,aj P e (show(P.info? e).isSome=true by simp[hi]),ko]
  by_cases u6:n.toNat*i.size=0
  ·simp only[u6,if_true,Sem.run_pure,newRow,newObj,Sem.run_bind,Sem.run,Result.andThen];have e0:(Array.map (fun x=>(#[]:Array Value)[x %(#[]:Array Value).size]!) (Array.range 0))=rep z.cells 0:=by simp[rep]
   rw[e0]
   first|rfl|done
  ·simp only[u6,if_false,hzero,Sem.run_pure,newRow,newObj,Sem.run_bind,Sem.run,Result.andThen]
   rfl
 ·-- convert
  rename_i s t y hop;obtain⟨y',hy,hx⟩:=Option.bind_eq_some_iff.1 hx
  split at hx
  ·rename_i e hs ht
   split at hx
   case h_2=>cases hx
   rename_i he
   cases hx
   obtain⟨h1,h2⟩:=h;have hst:=ay h1;have pK:(r y').s.size<=grownCap w (r y').s.size 0 e:=by simp only[grownCap,Question.cut];omega
   have hrun:=nH (P:=P) (w:=w) (q:=(r y').s) hs ht he;rw[<-hst]at hrun;refine value (v:=.slice (some ⟨w.heap.size,0,none⟩) (r y').s.size (grownCap w (r y').s.size 0 e)) ?_ (h2 _ pK) ⟨rfl,rfl,rfl⟩ (w':={w with heap:=w.heap.push (.cells (byteCells (r y').s++Array.replicate (grownCap w (r y').s.size 0 e -(r y').s.size) (.int .u8 0)) e (grownCap w (r y').s.size 0 e,grownCap w (r y').s.size 0 e+1)),drawn:=w.drawn+1});simp only[execOp,hop,htr _ _ hy];exact bu hrun
  ·rename_i e0 e hs ht
   split at hx
   case isFalse=>cases hx
   rename_i hst
   cases hx
   unfold qR at hst;obtain⟨rfl,hst⟩:=hst
   split at hst
   case h_2=>cases hst
   rename_i he;obtain rfl:e0=e:=by rw[hs]at ht;injection ht with h;injection h
   simp only[EX.wp]at h
   split at h
   case h_2=>exact h.elim
   rename_i p l c hp;refine value (v:=r y') (w':={w with heap:=(match iu w.heap p.block with|some n=>lW w.heap p.block n|none=>w.heap)}) ?_ ?_ ⟨rfl,rfl,rfl⟩
   ·simp only[execOp,hop,htr _ _ hy,hp];refine bu ?_;simp only[convert,Sem.run_bind,run_underlying hs,Result.andThen,beq_self_eq_true,run_underlying he,markStringish,shape,Sem.run];have pL:w.shape? p.block=match w.heap[p.block]? with|some (.cells c T _)=>some (T,c.size)|_=>none:=rfl
    simp only[pL,iu]
    cases hb:w.heap[p.block]? with
    |none=>rfl
    |some ob=>
     cases ob with
     |cells c T z=>
      simp only[freeze,Sem.run,World.freeze];rw[if_neg (by decide)]
      rfl
     |_=>rfl
   ·split at h
    ·rename_i n sV;simp only[sV];exact h
    ·rename_i sV;simp only[sV];exact h
  ·cases hx
 ·-- call
  rename_i c hop;unfold lZ at hx
  split at hx
  ·rename_i f fC
   split at hx
   ·rename_i hb;obtain⟨l,hl,rfl⟩:=Option.map_eq_some_iff.1 hx;refine enter (f:=f) (args:=(l.map r).toArray) ?_ h;have hargs:c.args.map a.eval=(l.map r).toArray:=by rw[<-ck htr hl,<-List.map_toArray]
    simp only[execOp,hop,resolve,fC,Act.eval,Deferred.ofValue,Sem.run_bind,Sem.run_pure,Result.andThen,invoke];have e:(#[]++c.args.map a.eval++#[]:Array Value)=(l.map r).toArray:=by rw[hargs];simp
    rw[e];exact iz hb
   ·obtain⟨l,hl,rfl⟩:=Option.map_eq_some_iff.1 hx;obtain⟨v,H1,hv,hk⟩:=h;refine value (v:=v) (w':={w with heap:=H1}) ?_ hk ⟨rfl,rfl,rfl⟩;have hargs:c.args.map a.eval=(l.map r).toArray:=by rw[<-ck htr hl,<-List.map_toArray]
    simp only[execOp,hop,resolve,fC,Act.eval,Deferred.ofValue,Sem.run_bind,Sem.run_pure,Result.andThen,invoke];have e:(#[]++c.args.map a.eval++#[]:Array Value)=(l.map r).toArray:=by rw[hargs];simp
    rw[e];exact hv w rfl
  ·rename_i f _ fC;obtain⟨g,hg,hx⟩:=Option.bind_eq_some_iff.1 hx;obtain⟨l,hl,rfl⟩:=Option.map_eq_some_iff.1 hx;simp only[EX.wp]at h
   split at h
   case h_2=>exact h.elim
   rename_i k fi ca v8;refine enter (f:=k) (args:=fi++(l.map r).toArray++ca) ?_ h.2;have hargs:c.args.map a.eval=(l.map r).toArray:=by rw[<-ck htr hl,<-List.map_toArray]
   simp only[execOp,hop,resolve,fC,htr _ _ hg,v8,Deferred.ofValue,Sem.run_bind,Sem.run_pure,Result.andThen,invoke,hargs];exact iz h.1
  ·-- append
   rename_i fC
   split at hx
   case h_2=>cases hx
   rename_i sO xO t u hargs oX;obtain⟨s',hs,hx⟩:=Option.bind_eq_some_iff.1 hx;obtain⟨x',sW,hx⟩:=Option.bind_eq_some_iff.1 hx
   split at hx
   case h_2=>cases hx
   rename_i e hu;obtain⟨i,hi,hx⟩:=Option.bind_eq_some_iff.1 hx;obtain⟨z,hz,hx⟩:=Option.bind_eq_some_iff.1 hx
   split at hx
   case isFalse=>cases hx
   rename_i rX;have e1:c.args=#[sO,xO]:=by cases hc:c.args;rw[hc]at hargs;simpa using hargs
   have e2:c.argTypes=#[t,u]:=by cases hc:c.argTypes;rw[hc]at oX;simpa using oX
   have hxe:∃str,x=.app str e i.size i.bytes z.cells s' x'/\(str=true->i.size=1)/\∃d,P.underlying u=some d/\(d=.string\/∃e',d=.slice e'):=by
    split at hx
    ·rename_i _ rY;cases hx;exact⟨_,rfl,(fun h=>by cases h),_,rY,.inr ⟨_,rfl⟩⟩
    ·rename_i rY
     split at hx
     ·rename_i h1;cases hx;exact⟨_,rfl,(fun _=>h1),_,rY,.inl rfl⟩
     ·cases hx
    ·cases hx
   obtain⟨str,rfl,pM,d,hud,hd⟩:=hxe;have hrun:∀{v:Value} {w':World},(Builtin.append_ #[t,u] o.type #[r s',r x']).run P w=.ok v w'->(execOp a.eval o).run P w=.ok (.value v) w':=by
    intro v w' hr;simp only[execOp,hop,resolve,fC,Sem.run_bind,Sem.run_pure,Result.andThen,invoke,e1,e2];simp only[List.map_toArray,List.map_cons,List.map_nil,htr _ _ hs,htr _ _ sW];exact bu hr
   obtain⟨⟨h1,h2,h3,h4⟩,news,hnews,hin,hout⟩:=h;have sX:aT (r x')\/cR (r x'):=by unfold dN at h2;split at h2<;>simp[h2]
   have sY:cR (r x')->i.size=1:=by
    intro hS;refine pM ?_
    cases str with
    |true=>rfl
    |false=>simp only[dN,Bool.false_eq_true,if_false]at h2;cases hv:r x'<;>rw[hv]at hS h2<;>first|exact hS.elim|exact h2.elim
   have qZ:=iZ (P:=P) (w:=w) (ty:=o.type) hu hi hz hud hd (aV h1) sX sY h3 h4 hnews
   by_cases kt:av (r s')+aF (r x')<=bp (r s')
   ·obtain⟨g1,g2⟩:=hin kt;exact value (hrun (qZ.1 kt g1)) g2 ⟨rfl,rfl,rfl⟩
   ·obtain⟨olds,g1,g2⟩:=hout (by omega);have:=qZ.2 (by omega) _ g1;exact value (hrun this) (g2 _ (by simp only[grownCap,Question.cut];omega)) ⟨rfl,rfl,rfl⟩
  ·-- copy
   rename_i fC
   split at hx
   case h_2=>cases hx
   rename_i dO sO t u hargs oX;obtain⟨d',hd,hx⟩:=Option.bind_eq_some_iff.1 hx;obtain⟨s',hs,hx⟩:=Option.bind_eq_some_iff.1 hx
   split at hx
   case h_2=>cases hx
   rename_i e hu
   split at hx
   case isFalse=>cases hx
   rename_i hi;have e1:c.args=#[dO,sO]:=by cases hc:c.args;rw[hc]at hargs;simpa using hargs
   have e2:c.argTypes=#[t,u]:=by cases hc:c.argTypes;rw[hc]at oX;simpa using oX
   have hxe:∃str,x=.cpy str (P.cellsOf e) d' s'/\(str=true->P.cellsOf e=1):=by
    split at hx
    ·cases hx;exact⟨_,rfl,fun h=>by cases h⟩
    ·split at hx
     ·rename_i h1;cases hx;exact⟨_,rfl,fun _=>h1⟩
     ·cases hx
    ·cases hx
   obtain⟨str,rfl,pM⟩:=hxe;obtain⟨⟨h1,h2⟩,news,hnews,hp,hk⟩:=h;have sX:aT (r s')\/cR (r s'):=by unfold dN at h2;split at h2<;>simp[h2]
   have sY:cR (r s')->P.cellsOf e=1:=by
    intro hS;refine pM ?_
    cases str with
    |true=>rfl
    |false=>simp only[dN,Bool.false_eq_true,if_false]at h2;cases hv:r s'<;>rw[hv]at hS h2<;>first|exact hS.elim|exact h2.elim
   refine value (v:=.int .i64 (min (aF (r s')) (av (r d')):Nat)) (w':={w with heap:=bE w.heap (bC (r d')) 0 news}) ?_ hk ⟨rfl,rfl,rfl⟩;simp only[execOp,hop,resolve,fC,Sem.run_bind,Sem.run_pure,Result.andThen,invoke,e1,e2];simp only[List.map_toArray,List.map_cons,List.map_nil,htr _ _ hd,htr _ _ hs];refine bu ?_;have hsl:=aV h1;generalize r d'=dv at*;generalize u3:bC dv=ad at*;generalize u4:av dv=ld at*;generalize bp dv=cd at*;subst hsl;have dT:=gv (P:=P) (w:=w) hp;have wa:=aO (P:=P) (w:=w) (size:=P.cellsOf e) (n:=min (aF (r s')) ld) hnews sY;simp only[Builtin.copy_];simp only[List.getElem?_toArray,List.getElem?_cons_zero,List.getElem?_cons_succ];simp only[Sem.run_bind,run_underlying hu,Result.andThen,eH sX,aj P e hi];rw[show Nat.min (aF (r s')) ld=min (aF (r s')) ld from rfl,wa]
   cases ad with
   |none=>rfl
   |some p=>
    have e0:p.add 0=p:=add_zero' p;simp only[Sem.run_bind,Result.andThen,e0]at dT⊢;rw[dT]
    rfl
  ·-- clear
   rename_i fC
   split at hx
   case h_2=>cases hx
   rename_i sO t hargs oX;obtain⟨s',hs,hx⟩:=Option.bind_eq_some_iff.1 hx
   split at hx
   case h_2=>cases hx
   rename_i e hu;obtain⟨i,hi,hx⟩:=Option.bind_eq_some_iff.1 hx;obtain⟨z,hz,hx⟩:=Option.bind_eq_some_iff.1 hx
   cases hx
   have e1:c.args=#[sO]:=by cases hc:c.args;rw[hc]at hargs;simpa using hargs
   have e2:c.argTypes=#[t]:=by cases hc:c.argTypes;rw[hc]at oX;simpa using oX
   have hzero:(zeroValue e).run P w=.ok z w:=by simp[zeroValue,typeInfo,program,Sem.run,hi,hz,Sem.run_bind,Result.andThen]
   obtain⟨h1,hp,hk⟩:=h;refine value (v:=.tuple #[]) (w':={w with heap:=bE w.heap (bC (r s')) 0 (rep z.cells (av (r s')*z.cells.size))}) ?_ hk ⟨rfl,rfl,rfl⟩;simp only[execOp,hop,resolve,fC,Sem.run_bind,Sem.run_pure,Result.andThen,invoke,e1,e2];simp only[List.map_toArray,List.map_cons,List.map_nil,htr _ _ hs];refine bu ?_;have hsl:=aV h1;generalize r s'=dv at*;generalize u3:bC dv=ad at*;generalize u4:av dv=ld at*;generalize bp dv=cd at*;subst hsl;have dT:=gv (P:=P) (w:=w) hp;simp only[Builtin.clear_];simp only[List.getElem?_toArray,List.getElem?_cons_zero];simp only[Sem.run_bind,run_underlying hu,Result.andThen]
   cases ad with
   |none=>rfl
   |some p=>
    have e0:p.add 0=p:=add_zero' p
    cases ld with
    |zero=>
     have:(rep z.cells (0*z.cells.size)).size=0:=by simp[rep]
     simp only[bE,this,if_true]
     rfl
    |succ n=>
     simp only[Sem.run_bind,Result.andThen,e0]at dT⊢;simp only[hzero,l5];rw[dT]
     rfl
  ·cases hx
 ·-- an entry of a map
  rename_i t mO kO vO hop;obtain⟨m,hm,hx⟩:=Option.bind_eq_some_iff.1 hx;obtain⟨k,hk,hx⟩:=Option.bind_eq_some_iff.1 hx;obtain⟨v,hv,hx⟩:=Option.bind_eq_some_iff.1 hx
  split at hx
  case h_2=>cases hx
  rename_i q e hu
  split at hx
  case h_3=>cases hx
  case h_2=>
   rename_i kk hq
   cases hx
   obtain⟨h1,b,es,clock,h2,h3,h4,h5⟩:=h;refine skip (w':={w with heap:=w.heap.setIfInBounds b (.map (lX es clock (r k) (r v)).1 (lX es clock (r k) (r v)).2)}) ?_ h5 ⟨rfl,rfl,rfl⟩;simp only[execOp,hop,htr _ _ hm,htr _ _ hk,htr _ _ hv];refine jU ?_;have hkv:=an h1;have hg:(getObj b).run P w=.ok (.map es clock) w:=by simp[getObj,Sem.run,h3]
   obtain⟨x,g1,g2,g3⟩:=ch kk (r k).i es.toList 0 h4;have nt:(Instr.checkKey false 10000 q (r k)).run P w=.ok () w:=cZ false hq 9999 _;have nu:(Instr.findKey q (r k) es.toList).run P w=.ok x w:=by
    have wb:Instr.findNow (.int kk) (r k) es.toList 0=some x:=by rw[hkv];exact g1
    simp only[Instr.findKey,Sem.run_bind,run_underlying hq,Result.andThen,wb,Sem.run_pure]
   unfold Instr.mapUpdate lX;rw[h2];simp only[Sem.run_bind,run_underlying hu,Result.andThen,hg,nt,nu]
   cases x with
   |none=>
    have g4:es.toList.findIdx? (fun e=>(r k).i==e.key.i)=none:=by
     cases hf:es.toList.findIdx? (fun e=>(r k).i==e.key.i)with
     |none=>rfl
     |some j=>rw[hf]at g3;cases g3
    rw[g4];simp[setObj,Sem.run,h3]
   |some p=>
    obtain⟨i,v0⟩:=p;have g4:es.toList.findIdx? (fun e=>(r k).i==e.key.i)=some i:=by
     cases hf:es.toList.findIdx? (fun e=>(r k).i==e.key.i)with
     |none=>rw[hf]at g3;cases g3
     |some j=>
      rw[hf]at g3;simp only[Option.map_some,Option.some.injEq,Nat.add_zero]at g3;rw[g3]
    rw[g4];obtain⟨hlt,hp1,_⟩:=List.findIdx?_eq_some_iff_getElem.1 g4;have wc:es[i]?=some es[i]:=Array.getElem?_eq_getElem (by simpa using hlt);have we:es[i].key=r k:=by
     have wg:=h4 es[i] (by simp);rw[an wg,hkv];have:(r k).i==(es.toList[i]).key.i:=hp1;simp only[beq_iff_eq,Array.getElem_toList]at this;rw[this]
    have wh:(Instr.keyThatStays (((es[i]?).map (·.key)).getD (r k)) (r k)).run P w=.ok (r k) w:=by
     rw[wc];simp only[Option.map_some,Option.getD_some,we];unfold Instr.keyThatStays;have wj:Instr.sameBits 10000 (r k) (r k)=true:=by rw[hkv];simp[Instr.sameBits]
     rw[wj]
     rfl
    simp only[Sem.run_bind,wh,Result.andThen];simp[setObj,Sem.run,h3]
  rename_i hq
  cases hx
  obtain⟨h1,b,es,clock,h2,h3,h4,h5⟩:=h;refine skip (w':={w with heap:=w.heap.setIfInBounds b (.map (es.push {key:=r k,val:=r v,born:=clock}) (clock+1))}) ?_ h5 ⟨rfl,rfl,rfl⟩;simp only[execOp,hop,htr _ _ hm,htr _ _ hk,htr _ _ hv];refine jU ?_;have hkv:=ay h1;have jT:bZ (r k).s es.toList=none:=by
   unfold bZ;rw[Option.map_eq_none_iff,List.find?_eq_none];intro x hx;have:=(h4 x hx).2;rw[this];decide
  generalize r k=kv at*;generalize kv.s=ks at*;subst hkv;obtain⟨x,g1,g2⟩:=br ks es.toList 0 (fun e he=>(h4 e he).1);rw[jT,Option.map_eq_none_iff]at g2;subst g2;have hg:(getObj b).run P w=.ok (.map es clock) w:=by simp[getObj,Sem.run,h3]
  have nt:(Instr.checkKey false 10000 q (.string ks)).run P w=.ok () w:=b5 false hq 9999 _;have nu:(Instr.findKey q (.string ks) es.toList).run P w=.ok none w:=by
   simp only[Instr.findKey,Sem.run_bind,run_underlying hq,Result.andThen,g1,Sem.run_pure]
  unfold Instr.mapUpdate;rw[h2];simp only[Sem.run_bind,run_underlying hu,Result.andThen,hg,nt,nu];simp[setObj,Sem.run,h3]
 ·-- a new map
  rename_i t hop
  cases hx
  refine value (v:=.map (some w.heap.size)) (w':={w with heap:=w.heap.push (.map #[] 0)}) ?_ h ⟨rfl,rfl,rfl⟩;simp only[execOp,hop];refine bu ?_;simp[Instr.makeMap,newObj,Sem.run,Result.andThen]
 ·-- a panic: never
  cases hx
  exact h.elim
 ·cases hx
theorem fP
  (hQ:∀f a w,Q f w.heap->Rel D L n a f->aI w0 w->Q' .normal a w):
  ∀(l:List Oper) (ks:List Nat) (l':List O) (e:Env) (f:Fr) (a:Act) (w:World),cj P L n all l ks=some l'->dm D L n ks e a f->aI w0 w->ops P l' e f w.heap Q->wpList P all Q' l a w:=by
 intro l
 induction l with
 |nil=>
  intro ks l' e f a w hl hr hs h
  cases hl
  exact hQ f a w h hr.toRel hs
 |cons o l ih=>
  intro ks l' e f a w hl hr hs h;simp only[cj]at hl;obtain⟨d,hd,hl⟩:=Option.bind_eq_some_iff.1 hl;obtain⟨g,hg,hl⟩:=Option.bind_eq_some_iff.1 hl;have l6:=hr.gb hg;unfold wpList;rw[l6]
  split at hl
  ·rename_i x hx;obtain⟨l2,dU,rfl⟩:=Option.map_eq_some_iff.1 hl;obtain⟨hp,h⟩:=h;simp only[lI,if_true];refine .inl ?_;unfold Oper.wp;rw[bs hx hr.rd (fun _=>rfl) hp,Oper.upon_value];exact ih _ _ _ _ _ _ dU (hr.put hd _) hs h
  ·rename_i x b hx;obtain⟨l2,dU,rfl⟩:=Option.map_eq_some_iff.1 hl;obtain⟨hp,h⟩:=h
   by_cases hc:lI (some (x,b)) e f=true
   ·have l7:gb (x.rd e f) b=true:=hc;rw[if_pos l7]at h;rw[if_pos hc];refine .inl ?_;unfold Oper.wp;rw[bs hx hr.rd (fun _=>rfl) (hp hc),Oper.upon_value];exact ih _ _ _ _ _ _ dU (hr.put hd _) hs h
   ·have l7:¬gb (x.rd e f) b=true:=hc;rw[if_neg l7]at h;rw[if_neg hc];exact ih _ _ _ _ _ _ dU (hr.put hd _) hs h
  ·obtain⟨x,hx,hl⟩:=Option.bind_eq_some_iff.1 hl
   split at hl
   ·obtain⟨l2,dU,rfl⟩:=Option.map_eq_some_iff.1 hl;simp only[lI,if_true];refine .inl ?_;exact eI hx hr.rd h _ _ fun v w' hk hw=>ih _ _ _ _ _ _ dU (hr.put hd _) (hs.trans hw) hk
   ·obtain⟨l2,dU,rfl⟩:=Option.map_eq_some_iff.1 hl;obtain⟨h1,h2⟩:=h;rename_i ga u7 _ _ _
    by_cases hc:lI (some (ga,u7)) e f=true
    ·rw[if_pos hc];refine .inl ?_;exact eI hx hr.rd (h1 hc) _ _ fun v w' hk hw=>ih _ _ _ _ _ _ dU (hr.put hd _) (hs.trans hw) hk
    ·rw[if_neg hc];exact ih _ _ _ _ _ _ dU (hr.put hd _) hs (h2 (by have l7:¬gb (ga.rd e f) u7=true:=hc;simpa using l7))
theorem fQ {Q':Act->Prop} (k:Nat):
  ∀(l:List Oper) (ks:List Nat) (l':List O) (e:Env) (f:Fr) (a:Act),
   (∀(rZ:List Nat) (l2:List O) (e':Env) (f':Fr) (a':Act),cj P L n all (l.drop k) rZ=some l2->dm D L n rZ e' a' f'->ops P l2 e' f' w.heap Q->Q' a')→
   cj P L n all l ks=some l'->(l'.take k).all O.pure=true->dm D L n ks e a f->ops P l' e f w.heap Q->wpStill P all w Q' (l.take k) a:=by
 induction k with
 |zero=>
  intro l ks l' e f a hQ hl _ hr h;simp only[List.take_zero,wpStill];exact hQ _ _ _ _ _ (by simpa using hl) hr h
 |succ k ih=>
  intro l ks l' e f a hQ hl hp hr h
  cases l with
  |nil=>
   simp only[List.take_nil,wpStill];exact hQ _ _ _ _ _ (by simpa using hl) hr h
  |cons o l=>
   simp only[cj]at hl;obtain⟨d,hd,hl⟩:=Option.bind_eq_some_iff.1 hl;obtain⟨g,hg,hl⟩:=Option.bind_eq_some_iff.1 hl;have l6:=hr.gb hg;simp only[List.take_succ_cons,List.drop_succ_cons,wpStill]at hQ⊢;rw[l6]
   split at hl
   ·rename_i x hx;obtain⟨l2,dU,rfl⟩:=Option.map_eq_some_iff.1 hl;obtain⟨hpre,h⟩:=h;simp only[List.take_succ_cons,List.all_cons,Bool.and_eq_true]at hp;simp only[lI,if_true];unfold Oper.still;rw[bs hx hr.rd (fun _=>rfl) hpre,Oper.stillUpon_value];exact ih _ _ _ _ _ _ hQ dU hp.2 (hr.put hd _) h
   ·rename_i x b hx;obtain⟨l2,dU,rfl⟩:=Option.map_eq_some_iff.1 hl;obtain⟨hpre,h⟩:=h;simp only[List.take_succ_cons,List.all_cons,Bool.and_eq_true]at hp
    by_cases hc:lI (some (x,b)) e f=true
    ·have l7:gb (x.rd e f) b=true:=hc;rw[if_pos l7]at h;rw[if_pos hc];unfold Oper.still;rw[bs hx hr.rd (fun _=>rfl) (hpre hc),Oper.stillUpon_value];exact ih _ _ _ _ _ _ hQ dU hp.2 (hr.put hd _) h
    ·have l7:¬gb (x.rd e f) b=true:=hc;rw[if_neg l7]at h;rw[if_neg hc];exact ih _ _ _ _ _ _ hQ dU hp.2 (hr.put hd _) h
   ·obtain⟨x,hx,hl⟩:=Option.bind_eq_some_iff.1 hl
    split at hl
    ·obtain⟨l2,dU,rfl⟩:=Option.map_eq_some_iff.1 hl;simp[List.take_succ_cons,O.pure]at hp
    ·obtain⟨l2,dU,rfl⟩:=Option.map_eq_some_iff.1 hl;simp[List.take_succ_cons,O.pure]at hp
theorem PM.gw {q:PM} (h:q.free=true) (r:A->Value) (H H':Hp):q.pre r H=q.pre r H'/\q.val r H=q.val r H':=by
 cases q<;>first|exact⟨rfl,rfl⟩|cases h
theorem PX.gw {x:PX} (h:x.free=true) (r:A->Value) (H H':Hp):x.pre r H=x.pre r H'/\x.val r H=x.val r H':=by
 cases x<;>first|exact⟨rfl,rfl⟩|cases h|exact PM.gw h r H H'
theorem ku {fl:Bool} {x:EX} (hx:sU fl P tr o=some x) (htr:∀y z,tr y=some z->a.eval y=r z)
 (h:x.wp P r w.heap K):qK P o a w K:=by
 unfold sU at hx
 split at hx
 ·rename_i y hy
  cases hx
  exact eI hy htr h
 ·split at hx
  case isFalse=>cases hx
  obtain⟨q,hq,rfl⟩:=Option.map_eq_some_iff.1 hx;intro next Q hn
  rw[bs hq htr (fun _=>rfl) h.1,Oper.upon_value];exact hn _ _ h.2 (aI.refl w)
theorem dP {P:Program} {md:Region.Mode} {all:Array Oper} {Q:Exit->Act->World->Prop} {S S':World->Prop} (hS:∀w,S' w->S w):∀(k:Nat) (listed:Array Bool) (a:Act) (w:World),wpAnyH P md all Q S' k listed a w->wpAnyH P md all Q S k listed a w
 |0,_,_,_,h=>h
 |k+1,_,_,_,h=>⟨h.1,fun i hi=>wpOp_mono (fun a' w' h'=>⟨hS _ h'.1,dP hS k _ a' w' h'.2⟩) (h.2 i hi)⟩
theorem kx {fl:Oper->Bool} (hsel:Region.noSelect all=true)
  (hQ:∀f a w,Q f w.heap->Rel D L n a f->aI w0 w->Q' .normal a w) (wk:∀c a w,¬Q' (.panic c) a w):
  ∀(k:Nat) (C:Hp->Prop) (listed:Array Bool) (ks:List Nat) (t:T) (e:Env) (f:Fr) (a:Act) (w:World),qs fl P L n all k listed ks=some t->dm D L n ks e a f->C w.heap->aI w0 w->iv P C t e f w.heap Q→
   wpAnyH P .any all Q' (fun w=>C w.heap/\aI w0 w) k listed a w:=by
 intro k
 induction k with
 |zero=>
  intro C listed ks t e f a w ht hr hC hs h;simp only[qs]at ht
  split at ht
  ·rename_i h0;cases ht;exact⟨h0,hQ f a w h hr.toRel hs⟩
  ·cases ht
 |succ k ih=>
  intro C listed ks t e f a w ht hr hC hs h;simp only[qs]at ht
  split at ht
  ·rename_i h0;cases ht;exact wpAnyH_done h0 (hQ f a w h hr.toRel hs) _
  rename_i jT
  split at ht
  ·rename_i i oY;have sZ:=List.mem_of_find?_eq_some oY;have oZ:=List.find?_some oY;simp only[Bool.and_eq_true]at oZ;obtain⟨o,ho,ht⟩:=Option.bind_eq_some_iff.1 ht;obtain⟨d,hd,ht⟩:=Option.bind_eq_some_iff.1 ht;obtain⟨g,hg,ht⟩:=Option.bind_eq_some_iff.1 ht;obtain⟨x,hx,ht⟩:=Option.bind_eq_some_iff.1 ht;obtain⟨t',r3,rfl⟩:=Option.map_eq_some_iff.1 ht;have l6:=hr.gb hg;have q3:(if x.free=true then x.pre (A.rd e f) w.heap else∀H',C H'->x.pre (A.rd e f) H'/\x.val (A.rd e f) H'=x.val (A.rd e f) w.heap)→
     ∀w':World,C w'.heap/\aI w0 w'->(execOp a.eval o).run P w'=.ok (.value (x.val (A.rd e f) w.heap)) w':=by
    intro hst w' wo
    split at hst
    ·rename_i q4;obtain⟨p1,p2⟩:=PX.gw q4 (A.rd e f) w.heap w'.heap;rw[p2];exact bs hx hr.rd (fun _=>rfl) (p1▸hst)
    ·obtain⟨p1,p2⟩:=hst w'.heap wo.1;rw[<-p2];exact bs hx hr.rd (fun _=>rfl) p1
   have go:∀v,YieldsIf P all (fun w=>C w.heap/\aI w0 w) o v a->iv P C t' (d.env v e) (d.fr v f) w.heap Q->wpAnyH P .any all Q' (fun w=>C w.heap/\aI w0 w) (k+1) listed a w:=by
    intro v hy hv;exact wpAnyH_take ho hsel oZ.1 (by simpa using sZ) (fun c a w hp=>(wk _ _ _ hp).elim) hy ⟨hC,hs⟩ (ih _ _ _ _ _ _ _ _ r3 (hr.put hd v) hC hs hv)
   cases g with
   |none=>
    obtain⟨h1,h2⟩:=h;exact go _ (.inl ⟨l6,q3 h1⟩) h2
   |some p=>
    obtain⟨y,b⟩:=p;obtain⟨h1,h2⟩:=h
    by_cases hc:gb (y.rd e f) b=true
    ·rw[if_pos hc]at h2;exact go _ (.inl ⟨l6.trans hc,q3 (h1 hc)⟩) h2
    ·rw[if_neg hc]at h2;exact go _ (.inr ⟨l6.trans (by simpa[lI]using hc),rfl⟩) h2
  ·rename_i hfn;refine wpAnyH_all rfl jT ?_;clear hfn;generalize Region.ready .any all listed=rs at*;clear jT
   induction rs generalizing t with
   |nil=>intro i hi;cases hi
   |cons j rs wu=>
    simp only[List.foldr_cons]at ht;obtain⟨m,hm,ht⟩:=Option.bind_eq_some_iff.1 ht;obtain⟨o,ho,ht⟩:=Option.bind_eq_some_iff.1 ht;obtain⟨d,hd,ht⟩:=Option.bind_eq_some_iff.1 ht;obtain⟨g,hg,ht⟩:=Option.bind_eq_some_iff.1 ht;obtain⟨x,hx,ht⟩:=Option.bind_eq_some_iff.1 ht;obtain⟨t',r3,rfl⟩:=Option.map_eq_some_iff.1 ht;have l6:=hr.gb hg;have wx:iv P C m e f w.heap Q:=by
     cases g with
     |none=>exact h.2
     |some p=>exact h.2
    intro i hi;rcases List.mem_cons.1 hi with rfl|hi
    ·unfold wpOp;simp only[ho];have run:(x.wp P (A.rd e f) w.heap fun v H'=>∃C':Hp->Prop,(∀K,C' K->C K)/\C' H'/\iv P C' t' (d.env v e) (d.fr v f) H' Q)→
       o.wp P a w (fun a' w'=>(C w'.heap/\aI w0 w')/\wpAnyH P .any all Q' (fun w=>C w.heap/\aI w0 w) k (listed.setIfInBounds i true) a' w') Q':=by
      intro wy;exact ku hx hr.rd wy _ _ fun v w' ⟨C',hk,qt,q5⟩ hw=>⟨⟨hk _ qt,hs.trans hw⟩,dP (fun w q=>⟨hk _ q.1,q.2⟩) _ _ _ _ (ih C' _ _ _ _ _ _ _ r3 (hr.put hd v) qt (hs.trans hw) q5)⟩
     cases g with
     |none=>
      rw[if_pos (show _=true from l6)];exact .inl (run h.1)
     |some p=>
      obtain⟨y,b⟩:=p
      by_cases hc:gb (y.rd e f) b=true
      ·rw[if_pos (show _=true from l6.trans hc)];exact .inl (run (h.1.1 hc))
      ·have l7:lI (some (y,b)) e f=false:=by simpa[lI]using hc
       rw[if_neg (by rw[l6,l7];simp)];exact⟨⟨hC,hs⟩,ih _ _ _ _ _ _ _ _ r3 (hr.put hd undef) hC hs (h.1.2 (by simpa using hc))⟩
    ·exact wu _ wx hm i hi
def jV (D:List Deferred) (L:List Nat) (n:Nat) (w0:World) (Q:Ex->Fr->Hp->Prop):Exit->Act->World->Prop:=fun e a w=>∃e' f,e=e'.to/\Q e' f w.heap/\Rel D L n a f/\aI w0 w
theorem i6 {w1:World} {Q:Ex->Fr->Hp->Prop} (hs:aI w0 w1) {e:Exit} (h:jV D L n w1 Q e a w):jV D L n w0 Q e a w:=
 let⟨e',f,he,hq,hr,cP⟩:=h;⟨e',f,he,hq,hr,hs.trans cP⟩
theorem dn (w:World):aI w {w with drawn:=w.drawn+1}:=⟨rfl,rfl,rfl⟩
theorem l8 (hmix:P.follows .mixedOrders=true):∀(c:Code) (s:S),trans P L n c=some s->∀(Q:Ex->Fr->Hp->Prop) (f:Fr) (a:Act) (w:World),vc P s Q f w.heap->Rel D L n a f→
  c.wp P (jV D L n w Q) a w:=by
 intro c
 induction c with
 |skip=>
  intro s hs Q f a w h hr
  cases hs
  exact wp_skip ⟨.n,f,rfl,h,hr,aI.refl w⟩
 |region id all draw=>
  intro s hs Q f a w h hr;simp only[trans]at hs;have qu:dm D L n [] [] a f:=⟨hr,fun t _ h=>by simp at h⟩
  cases draw with
  |false=>
   simp only[Bool.false_eq_true,if_false]at hs;obtain⟨l,hl,rfl⟩:=Option.map_eq_some_iff.1 hs;refine wp_region_list ?_;exact fP (w0:=w) (Q:=Q .n) (fun f' a' w' hq dY cP=>⟨.n,f',rfl,hq,dY,cP⟩) _ _ _ _ _ _ _ hl qu (aI.refl w) h
  |true=>
   simp only[if_true,qX]at hs
   split at hs
   ·rename_i s' cP
    cases hs
    obtain⟨l,hl,cP⟩:=Option.bind_eq_some_iff.1 cP
    split at cP
    case isFalse=>cases cP
    rename_i hin
    cases cP
    have h':ops P l [] f ({w with drawn:=w.drawn+1}:World).heap (Q .n):=h;simp only[l3,Bool.or_eq_true,Bool.and_eq_true]at hin;rcases hin with⟨hB,hp⟩|hB
    ·refine wp_region_still hmix hB ?_;have:=fQ (P:=P) (D:=D) (L:=L) (n:=n) (all:=all) (w:={w with drawn:=w.drawn+1}) (Q:=Q .n) (Q':=fun a'=>jV D L n w Q .normal a' {w with drawn:=w.drawn+1}) (max all.toList.length l.length) all.toList [] l [] f a ?_ hl ?_ qu h'
     ·rwa [List.take_of_length_le (Nat.le_max_left _ _)]at this
     ·intro rZ l2 e' f' a' h1 h2 h3;rw[List.drop_eq_nil_of_le (Nat.le_max_left _ _)]at h1
      cases h1
      exact⟨.n,f',rfl,h3,h2.toRel,dn w⟩
     ·rwa [List.take_of_length_le (Nat.le_max_right _ _)]
    ·obtain⟨k,_,hk⟩:=List.any_eq_true.1 hB;simp only[Bool.and_eq_true]at hk;obtain⟨all⟩:=all;refine wp_region_still_tail k hmix hk.2 ?_;refine fQ (P:=P) (D:=D) (L:=L) (n:=n) (w:={w with drawn:=w.drawn+1}) (Q:=Q .n) k all [] l [] f a ?_ hl hk.1 qu h';intro rZ l2 e' f' a' h1 h2 h3;exact fP (w0:=w) (Q:=Q .n) (fun f' a' w' hq dY cP=>⟨.n,f',rfl,hq,dY,cP⟩) _ _ _ _ _ _ _ h1 h2 (dn w) h3
   ·split at hs
    case isFalse=>cases hs
    rename_i hsel;obtain⟨t,ht,rfl⟩:=Option.map_eq_some_iff.1 hs;obtain⟨C,hC,h⟩:=h;refine wp_region_held (S:=fun w'=>C w'.heap/\aI w w') hmix ?_;exact kx hsel (w0:=w) (Q:=Q .n) (fun f' a' w' hq dY cP=>⟨.n,f',rfl,hq,dY,cP⟩) (fun c a' w' ⟨e',_,he,_⟩=>by cases e'<;>cases he) _ _ _ _ _ _ _ _ _ ht qu hC (dn w) h
 |seq x y ihx ihy=>
  intro s hs Q f a w h hr;simp only[trans]at hs;obtain⟨sx,hx,hs⟩:=Option.bind_eq_some_iff.1 hs;obtain⟨sy,hy,rfl⟩:=Option.map_eq_some_iff.1 hs;refine wp_seq (wp_mono (ihx sx hx _ f a w h hr) ?_);rintro e a' w' ⟨e',f',rfl,hq,dY,cP⟩
  cases e' with
  |n=>exact wp_mono (ihy sy hy _ f' a' w' hq dY) fun _ _ _ h=>i6 cP h
  |x id=>exact⟨.x id,f',rfl,hq,dY,cP⟩
  |r=>exact⟨.r,f',rfl,hq,dY,cP⟩
 |cond c x y ihx ihy=>
  intro s hs Q f a w h hr;simp only[trans]at hs;obtain⟨c',hc,hs⟩:=Option.bind_eq_some_iff.1 hs;obtain⟨sx,hx,hs⟩:=Option.bind_eq_some_iff.1 hs;obtain⟨sy,hy,rfl⟩:=Option.map_eq_some_iff.1 hs;have qu:dm D L n [] [] a f:=⟨hr,fun t _ h=>by simp at h⟩
  obtain⟨hb,h1,h2⟩:=h;have he:=(qu.rd _ _ hc).trans (cf hb);exact wp_cond_split he (fun ht=>ihx sx hx _ f a w (h1 ht) hr) (fun ht=>ihy sy hy _ f a w (h2 ht) hr)
 |block id c ih=>
  intro s hs Q f a w h hr;simp only[trans]at hs;obtain⟨sx,hx,rfl⟩:=Option.map_eq_some_iff.1 hs;refine wp_block (wp_mono (ih sx hx _ f a w h hr) ?_);rintro e a' w' ⟨e',f',rfl,hq,dY,cP⟩
  cases e' with
  |n=>exact⟨.n,f',rfl,hq,dY,cP⟩
  |x i=>
   simp only[iY]at hq;simp only[Ex.to,Exit.inBlock]
   split
   ·rename_i hi;rw[if_pos hi]at hq;exact⟨.n,f',rfl,hq,dY,cP⟩
   ·rename_i hi;rw[if_neg hi]at hq;exact⟨.x i,f',rfl,hq,dY,cP⟩
  |r=>exact⟨.r,f',rfl,hq,dY,cP⟩
 |loop c ih=>
  intro s hs Q f a w h hr;simp only[trans]at hs;obtain⟨sx,hx,rfl⟩:=Option.map_eq_some_iff.1 hs;obtain⟨I,⟨m,h0⟩,hround⟩:=h;refine wp_loop_ghost (fun k a' w'=>∃f',I k f' w'.heap/\Rel D L n a' f'/\aI w w') m ⟨f,h0,hr,aI.refl w⟩ ?_;rintro k a1 w1 ⟨f1,hI,wz,hs1⟩;refine wp_mono (ih sx hx _ f1 a1 w1 (hround k f1 w1.heap hI) wz) ?_;rintro e a' w' ⟨e',f',rfl,hq,dY,cP⟩
  cases e' with
  |n=>
   obtain⟨m',hm,wA⟩:=hq;exact⟨m',hm,f',wA,dY,hs1.trans cP⟩
  |x i=>exact⟨.x i,f',rfl,hq,dY,hs1.trans cP⟩
  |r=>exact⟨.r,f',rfl,hq,dY,hs1.trans cP⟩
 |exit id=>
  intro s hs Q f a w h hr
  cases hs
  exact wp_exit ⟨.x id,f,rfl,h,hr,aI.refl w⟩
 |ret=>
  intro s hs Q f a w h hr
  cases hs
  exact wp_ret ⟨.r,f,rfl,h,hr,aI.refl w⟩
 |_=>intro s hs;cases hs
end Go.Mg
