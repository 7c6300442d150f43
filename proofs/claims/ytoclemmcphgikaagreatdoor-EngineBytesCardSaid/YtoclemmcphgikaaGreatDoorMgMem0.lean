/- Lemmas of ours. No conditions. -/
import Derived.WalkKit
import Derived.StillTailTactics
import Derived.Deep.LoopGhost
open Bool renaming false→ZS,true→ZT
open Go renaming Value→ZR
open Go.Value renaming pointer→Z7
open Option renaming none→ZU,some→ZV
open Array renaming ext_getElem?→W6,getElem?_setIfInBounds→YN
set_option linter.all false
namespace Go.Mg
open Go Go.RowKit
abbrev Hp:=Array Obj
abbrev Fr:=Nat->ZR
abbrev Env:=List (Nat×ZR)
structure bI (w w':World):Prop where
 os:w'.os=w.os
 tape:w'.tape=w.tape
 output:w'.output=w.output
def bI.refl (w:World):bI w w:=⟨rfl,rfl,rfl⟩
def bI.trans {a b c:World} (h:bI a b) (k:bI b c):bI a c:=⟨k.os.trans h.os,k.tape.trans h.tape,k.output.trans h.output⟩
def an (P:Program) (f:FuncId) (args:Array ZR) (H:Hp) (R:ZR->Hp->Prop):Prop:=
 ∀w:World,w.heap=H->Calls P f args w fun e w'=>∃v,e=.returned v/\R v w'.heap/\bI w w'
def an.mono {P:Program} {f:FuncId} {args:Array ZR} {H:Hp} {R R':ZR->Hp->Prop} (h:an P f args H R) (hr:∀v H',R v H'->R' v H'):an P f args H R':=
 fun w hw=>(h w hw).mono fun _ _ ⟨v,he,hR,hs⟩=>⟨v,he,hr _ _ hR,hs⟩
inductive A where
 |t (n:Nat)
 |v (n:Nat)
 |c (x:ZR)
def look:Env->Nat->ZR
 |[],_=>undef
 |p::e,n=>if n=p.1 then p.2 else look e n
def A.rd (e:Env) (f:Fr):A->ZR
 |.t n=>look e n
 |.v n=>f n
 |.c x=>x
def bR (f:Fr) (d:Nat) (x:ZR):Fr:=fun i=>if i=d then x else f i
inductive D where
 |no
 |t (n:Nat)
 |v (n:Nat)
def D.env:D->ZR->Env->Env
 |.t n,x,e=>(n,x)::e
 |_,_,e=>e
def D.fr:D->ZR->Fr->Fr
 |.v n,x,f=>bR f n x
 |_,_,f=>f
def cell (H:Hp) (a:Addr):Option ZR:=
 match H[a.block]? with
 |some (.cells c _ _)=>if a.spot.isSome then ZU else c[a.off]?
 |_=>ZU
def tL (H:Hp) (a:Addr):Bool:=
 match H[a.block]? with
 |some (.cells _ _ (lo,hi))=>lo<=a.off&&a.off<hi
 |_=>ZS
def az (H:Hp) (a:Addr) (v:ZR):Hp:=
 H.modify a.block fun
  |.cells c elem frozen=>.cells (if a.spot.isSome then c else c.setIfInBounds a.off v) elem frozen
  |o=>o
def KJ (w:World) (a:Addr):w.cell? a=cell w.heap a:=rfl
def aeT (w:World) (a:Addr):w.frozen? a=tL w.heap a:=rfl
def UM (w:World) (a:Addr) (v:ZR):w.setCell a v={w with heap:=az w.heap a v}:=rfl
def _root_.Go.Value.i:ZR->Int|.int _ n=>n|_=>0
def _root_.Go.Value.b:ZR->Bool|.bool b=>b|_=>ZS
def ju (k:IntKind):ZR->Prop|.int k' _=>k'=k|_=>False
def Pu:ZR->Prop|.bool _=>True|_=>False
def ahf (P:Program) (o:Oper) (a:Act) (w:World) (K:ZR->Hp->Prop):Prop:=
 ∀(next:Act->World->Prop) (Q:Exit->Act->World->Prop),(∀v w',K v w'.heap->bI w w'->next (a.put o.dst v) w')->o.upon P a next Q ((execOp a.eval o).run P w)
def _root_.Go.Value.s:ZR->ByteArray|.string s=>s|_=>.empty
def pI:ZR->Prop|.string _=>True|_=>False
def KN:ZR->Prop|.pointer (ZV _)=>True|_=>False
def isInt:ZR->Prop|.int _ _=>True|_=>False
variable {v:ZR}
def bX {k:IntKind} (h:ju k v):v=.int k v.i:=by
 cases v<;>simp only[ju]at h;subst h;rfl
def bB (h:isInt v):∃k,v=.int k v.i:=by
 cases v<;>simp only[isInt]at h;exact⟨_,rfl⟩
def gh (h:Pu v):v=.bool v.b:=by
 cases v<;>simp only[Pu]at h;rfl
def cT (h:pI v):v=.string v.s:=by
 cases v<;>simp only[pI]at h;rfl
def u0 (h:KN v):∃p,v=Z7 (ZV p):=by
 cases v<;>simp only[KN]at h
 rename_i a;cases a<;>simp only at h;exact⟨_,rfl⟩
section
variable {P:Program} {o:Oper} {w:World} {ρ:Operand->ZR}
def cO {s:Sem ZR} {v:ZR} (h:s.run P w=.ok v w):(do pure (.value (←s)):Sem Next).run P w=.ok (.value v) w:=by
 simp only[Sem.run_bind,h,Result.andThen,Sem.run_pure]
end
section
variable {P:Program} {o:Oper} {w:World} {ρ:Operand->ZR}
def km (P:Program) (t:TypeId) (h:P.cellsOf t≠0) (w:World):(sizeOf t).run P w=.ok (P.cellsOf t) w:=by
 unfold Program.cellsOf at h⊢
 cases hi:P.info? t with
 |none=>simp[hi]at h
 |some i=>simp[sizeOf,typeInfo,program,Sem.run,hi,Sem.run_bind,Result.andThen]
end
section
variable {P:Program} {o:Oper} {w:World} {ρ:Operand->ZR}
def bg (P:Program) (t:TypeId) (h:(P.info? t).isSome=ZT) (w:World):(sizeOf t).run P w=.ok (P.cellsOf t) w:=by
 unfold Program.cellsOf
 cases hi:P.info? t with
 |none=>simp[hi]at h
 |some i=>simp[sizeOf,typeInfo,program,Sem.run,hi,Sem.run_bind,Result.andThen]
end
section
variable {P:Program} {o:Oper} {w:World} {ρ:Operand->ZR}
def vd {H:Hp} (hw:w.heap=H) {a:Addr} {v:ZR} (h:cell H a=ZV v):(load a).run P w=.ok v w:=by
 have:w.cell? a=ZV v:=by rw[KJ,hw];exact h
 simp[load,Sem.run,this]
end
def jw {P:Program} {w:World} {t:TypeId} {x y:ZR} {b:Bool} (h:∀d,(Op.equalIn (d+3) t x y).run P w=.ok b w):(Op.equal t x y).run P w=.ok b w:=h 9997
def aQ (H:Hp) (p:Addr) (n:Nat):Option (Array ZR):=
 if p.spot.isSome then ZU else
 match H[p.block]? with
 |some (.cells C _ _)=>if p.off+n<=C.size then ZV (C.extract p.off (p.off+n))else ZU
 |_=>ZU
def aL (H:Hp) (v:ZR) (n:Nat):Option (Array ZR):=match v with|.pointer (ZV p)=>aQ H p n|_=>ZU
def fW (p : Addr) (hp : p.spot = ZU) (i : Nat) : p.add i = ⟨p.block, p.off + i, ZU⟩ := by
  cases p with | mk b o s => cases hp; unfold Addr.add; split
                             · rename_i h; subst h; rfl
                             · rfl
def pJ {P:Program} {w:World} (p:Addr) (hp:p.spot=ZU) {C:Array ZR} {T:TypeId} {z:Nat×Nat} (hb:w.heap[p.block]?=ZV (.cells C T z)):
  ∀(n i:Nat) (acc:Array ZR),p.off+i+n<=C.size->(loadCellsFrom p i n acc).run P w=.ok (acc++C.extract (p.off+i) (p.off+i+n)) w:=by
 intro n
 induction n with
 |zero=>intro i acc _;simp[loadCellsFrom];exact Nat.min_le_left _ _
 |succ n ih=>
  intro i acc h;have hlt:p.off+i<C.size:=by omega
  have hc:cell w.heap (p.add i)=ZV (C[p.off+i]):=by
   rw[fW p hp];simp[cell,hb,hlt]
  simp only[loadCellsFrom,Sem.run_bind,vd rfl hc,Result.andThen];rw[ih (i+1) _ (by omega)]
  congr 1
  apply Array.ext';simp only[Array.toList_append,Array.toList_push,Array.toList_extract,List.extract_eq_take_drop];have e1:p.off+(i+1)+n -(p.off+(i+1))=n:=by omega
  have e2:p.off+i+(n+1) -(p.off+i)=n+1:=by omega
  rw[e1,e2,List.append_assoc]
  congr 1
  have hl:p.off+i<C.toList.length:=by simpa using hlt
  rw[List.drop_eq_getElem_cons hl,List.take_succ_cons];simp[Nat.add_assoc]
def uF {P:Program} {w:World} {p:Addr} {n:Nat} {xs:Array ZR} (h:aQ w.heap p n=ZV xs):(loadCells p n).run P w=.ok xs w:=by
 unfold aQ at h
 split at h
 ·cases h
 ·rename_i hs;have hs:p.spot=ZU:=by simpa using hs
  split at h
  ·rename_i C T z hb
   split at h
   ·rename_i hle
    cases h
    have:=pJ (P:=P) p hs hb n 0 #[] (by omega);simpa[loadCells]using this
   ·cases h
  ·cases h
def jx (C:Array ZR) (off:Nat) (xs:List ZR):Array ZR:=(C.toList.take off++xs++C.toList.drop (off+xs.length)).toArray
def aB (H:Hp) (p:Addr) (xs:List ZR):Hp:=
 H.modify p.block fun
  |.cells C T z=>.cells (jx C p.off xs) T z
  |o=>o
def ML (H:Hp) (v:ZR) (xs:List ZR):Hp:=match v with|.pointer (ZV p)=>aB H p xs|_=>H
def bG (H:Hp) (p:Addr) (n:Nat):Prop:=p.spot=ZU/\∃C T z,H[p.block]?=ZV (.cells C T z)/\p.off+n<=C.size/\∀i,i<n->tL H ⟨p.block,p.off+i,ZU⟩=ZS
def okN (H:Hp) (v:ZR) (n:Nat):Prop:=match v with|.pointer (ZV p)=>bG H p n|_=>False
def DU {C:Array ZR} {off:Nat} {xs:List ZR} (h:off+xs.length<=C.size):(jx C off xs).size=C.size:=by
 simp[jx];omega
def KO (C:Array ZR) (off:Nat):jx C off []=C:=by simp[jx]
def DV {C:Array ZR} {off:Nat} {x:ZR} {xs:List ZR} (h:off+(xs.length+1)<=C.size):jx (C.setIfInBounds off x) (off+1) xs=jx C off (x::xs):=by
 obtain⟨l⟩:=C;simp only[List.size_toArray]at h;simp only[jx,List.setIfInBounds_toArray]
 congr 1
 have h1:off<l.length:=by omega
 have h2:(l.set off x).take (off+1)=l.take off++[x]:=by
  rw[List.take_set,List.take_succ_eq_append_getElem h1,List.set_append];simp[Nat.min_eq_left (Nat.le_of_lt h1)]
 have h3:(l.set off x).drop (off+1+xs.length)=l.drop (off+(xs.length+1)):=by
  rw[List.drop_set_of_lt (by omega)]
  congr 1;omega
 simp[h2,h3]
def pK {H:Hp} {b:Nat} {o:Obj} (h:H[b]?=ZV o) (f:Obj->Obj):H.modify b f=H.setIfInBounds b (f o):=by
 have hb:b<H.size:=(Array.getElem?_eq_some_iff.1 h).1;apply W6;intro i;rw[Array.getElem?_modify,YN]
 split
 ·rename_i hi;subst hi;rw[h];rfl
 ·rfl
def ve {H:Hp} {p:Addr} {x:ZR} (hp:p.spot=ZU) {C:Array ZR} {T:TypeId} {z:Nat×Nat} (hb:H[p.block]?=ZV (.cells C T z)):
  az H p x=H.setIfInBounds p.block (.cells (C.setIfInBounds p.off x) T z):=by
 unfold az;rw[pK hb];simp[hp]
def vf {H:Hp} {p:Addr} {xs:List ZR} {C:Array ZR} {T:TypeId} {z:Nat×Nat} (hb:H[p.block]?=ZV (.cells C T z)):
  aB H p xs=H.setIfInBounds p.block (.cells (jx C p.off xs) T z):=by
 unfold aB;rw[pK hb]
def dN {H:Hp} {b:Nat} {o o':Obj} (h:H[b]?=ZV o):(H.setIfInBounds b o')[b]?=ZV o':=by
 have hb:b<H.size:=(Array.getElem?_eq_some_iff.1 h).1;simp[hb]
def aeU (H:Hp) (b:Nat) (o o':Obj):(H.setIfInBounds b o).setIfInBounds b o'=H.setIfInBounds b o':=by
 apply W6;intro i;rw[YN,YN,YN]
 split
 ·simp
 ·rfl
def UN {H:Hp} {b:Nat} {o:Obj} (h:H[b]?=ZV o):H.setIfInBounds b o=H:=by
 have hb:b<H.size:=(Array.getElem?_eq_some_iff.1 h).1;apply W6;intro i;rw[YN]
 split
 ·rename_i hi;subst hi;rw[h]
 ·rfl
def yy {P:Program} {w:World} {p:Addr} {x:ZR} (h1:(cell w.heap p).isSome=ZT) (h2:tL w.heap p=ZS) (h3:x.oneCell'=ZT):(store p x).run P w=.ok () (w.setCell p x):=by
 obtain⟨v,hv⟩:=Option.isSome_iff_exists.1 h1;have hc:w.cell? p=ZV v:=hv;have hf:w.frozen? p=ZS:=h2;unfold store
 cases x<;>first|(simp only[Sem.run,hc,hf,Bool.false_eq_true,if_false];done)|cases h3
def vg {P:Program} (p:Addr) (hp:p.spot=ZU) {T:TypeId} {z:Nat×Nat}:
  ∀(xs:List ZR) (i:Nat) (C:Array ZR) (w:World),w.heap[p.block]?=ZV (.cells C T z)->p.off+i+xs.length<=C.size→
   (∀j,j<i+xs.length->tL w.heap ⟨p.block,p.off+j,ZU⟩=ZS)->(∀x∈xs,x.oneCell'=ZT)→
   (storeCells p xs i).run P w=.ok () {w with heap:=w.heap.setIfInBounds p.block (.cells (jx C (p.off+i) xs) T z)}:=by
 intro xs
 induction xs with
 |nil=>
  intro i C w hb _ _ _;rw[KO,UN hb];simp[storeCells]
 |cons x xs ih=>
  intro i C w hb hlen hfr hx;simp only[List.length_cons]at hlen hfr;have hlt:p.off+i<C.size:=by omega
  have ha:=fW p hp i;have hc:(cell w.heap (p.add i)).isSome=ZT:=by rw[ha];simp[cell,hb,hlt]
  have hf:tL w.heap (p.add i)=ZS:=by rw[ha];exact hfr i (by omega)
  have h1:=yy (P:=P) hc hf (hx x (by simp));have yd:w.setCell (p.add i) x={w with heap:=w.heap.setIfInBounds p.block (.cells (C.setIfInBounds (p.off+i) x) T z)}:=by
   rw[UM,ha,ve (p:=⟨p.block,p.off+i,ZU⟩) rfl hb]
  simp only[storeCells,Sem.run_bind,h1,Result.andThen,yd];have rB:({w with heap:=w.heap.setIfInBounds p.block (.cells (C.setIfInBounds (p.off+i) x) T z)}:World).heap[p.block]?=ZV (.cells (C.setIfInBounds (p.off+i) x) T z):=dN hb;rw[ih (i+1) _ _ rB (by simp;omega) ?_ (fun y hy=>hx y (by simp[hy]))]
  ·simp only[aeU];rw[show p.off+(i+1)=p.off+i+1 by omega,DV (by omega)]
  ·intro j hj;have:=hfr j (by omega);simp only[tL,hb,dN hb]at this⊢;exact this
def KQ {P:Program} {w:World} {p:Addr} {xs:List ZR} (h:bG w.heap p xs.length) (hx:∀x∈xs,x.oneCell'=ZT):(storeCells p xs).run P w=.ok () {w with heap:=aB w.heap p xs}:=by
 obtain⟨hp,C,T,z,hb,hl,hf⟩:=h;rw[vg p hp xs 0 C w hb (by omega) (fun j hj=>hf j (by omega)) hx,vf hb]
 rfl
end Go.Mg
