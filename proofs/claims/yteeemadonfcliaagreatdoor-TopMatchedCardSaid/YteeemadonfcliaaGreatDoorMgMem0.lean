/- Lemmas of ours. No conditions. -/
import Derived.WalkKit
import Derived.StillTailTactics
import Derived.Deep.LoopGhost
namespace Go.Mg
open Go Go.RowKit
abbrev Hp:=Array Obj
abbrev Fr:=Nat->Value
abbrev Env:=List (Nat×Value)
structure aW (w w':World):Prop where
 os:w'.os=w.os
 tape:w'.tape=w.tape
 output:w'.output=w.output
theorem aW.refl (w:World):aW w w:=⟨rfl,rfl,rfl⟩
theorem aW.trans {a b c:World} (h:aW a b) (k:aW b c):aW a c:=⟨k.os.trans h.os,k.tape.trans h.tape,k.output.trans h.output⟩
def an (P:Program) (f:FuncId) (args:Array Value) (H:Hp) (R:Value->Hp->Prop):Prop:=
 ∀w:World,w.heap=H->Calls P f args w fun e w'=>∃v,e=.returned v/\R v w'.heap/\aW w w'
theorem an.mono {P:Program} {f:FuncId} {args:Array Value} {H:Hp} {R R':Value->Hp->Prop} (h:an P f args H R) (hr:∀v H',R v H'->R' v H'):an P f args H R':=
 fun w hw=>(h w hw).mono fun _ _ ⟨v,he,hR,hs⟩=>⟨v,he,hr _ _ hR,hs⟩
inductive A where
 |t (n:Nat)
 |v (n:Nat)
 |c (x:Value)
def look:Env->Nat->Value
 |[],_=>undef
 |p::e,n=>if n=p.1 then p.2 else look e n
def A.rd (e:Env) (f:Fr):A->Value
 |.t n=>look e n
 |.v n=>f n
 |.c x=>x
def bN (f:Fr) (d:Nat) (x:Value):Fr:=fun i=>if i=d then x else f i
inductive D where
 |no
 |t (n:Nat)
 |v (n:Nat)
def D.env:D->Value->Env->Env
 |.t n,x,e=>(n,x)::e
 |_,_,e=>e
def D.fr:D->Value->Fr->Fr
 |.v n,x,f=>bN f n x
 |_,_,f=>f
def cell (H:Hp) (a:Addr):Option Value:=
 match H[a.block]? with
 |some (.cells c _ _)=>if a.spot.isSome then none else c[a.off]?
 |_=>none
def j8 (H:Hp) (a:Addr):Bool:=
 match H[a.block]? with
 |some (.cells _ _ (lo,hi))=>lo<=a.off&&a.off<hi
 |_=>false
def al (H:Hp) (a:Addr) (v:Value):Hp:=
 H.modify a.block fun
  |.cells c elem frozen=>.cells (if a.spot.isSome then c else c.setIfInBounds a.off v) elem frozen
  |o=>o
theorem Ay (w:World) (a:Addr):w.cell? a=cell w.heap a:=rfl
theorem Nl (w:World) (a:Addr):w.frozen? a=j8 w.heap a:=rfl
theorem IP (w:World) (a:Addr) (v:Value):w.setCell a v={w with heap:=al w.heap a v}:=rfl
def _root_.Go.Value.i:Value->Int|.int _ n=>n|_=>0
def _root_.Go.Value.b:Value->Bool|.bool b=>b|_=>false
def fB (k:IntKind):Value->Prop|.int k' _=>k'=k|_=>False
def Ev:Value->Prop|.bool _=>True|_=>False
def Rr (P:Program) (o:Oper) (a:Act) (w:World) (K:Value->Hp->Prop):Prop:=
 ∀(next:Act->World->Prop) (Q:Exit->Act->World->Prop),(∀v w',K v w'.heap->aW w w'->next (a.put o.dst v) w')->o.upon P a next Q ((execOp a.eval o).run P w)
end Go.Mg
namespace Go.Mg
open Go Go.RowKit
def _root_.Go.Value.s:Value->ByteArray|.string s=>s|_=>.empty
def j9:Value->Prop|.string _=>True|_=>False
def Nn:Value->Prop|.pointer (some _)=>True|_=>False
def isInt:Value->Prop|.int _ _=>True|_=>False
variable {v:Value}
theorem bp {k:IntKind} (h:fB k v):v=.int k v.i:=by
 cases v<;>simp only[fB]at h;subst h;rfl
theorem aT (h:isInt v):∃k,v=.int k v.i:=by
 cases v<;>simp only[isInt]at h;exact⟨_,rfl⟩
theorem dZ (h:Ev v):v=.bool v.b:=by
 cases v<;>simp only[Ev]at h;rfl
theorem bP (h:j9 v):v=.string v.s:=by
 cases v<;>simp only[j9]at h;rfl
theorem og (h:Nn v):∃p,v=.pointer (some p):=by
 cases v<;>simp only[Nn]at h
 rename_i a;cases a<;>simp only at h;exact⟨_,rfl⟩
section
variable {P:Program} {o:Oper} {w:World} {ρ:Operand->Value}
theorem bJ {s:Sem Value} {v:Value} (h:s.run P w=.ok v w):(do pure (.value (←s)):Sem Next).run P w=.ok (.value v) w:=by
 simp only[Sem.run_bind,h,Result.andThen,Sem.run_pure]
end
section
variable {P:Program} {o:Oper} {w:World} {ρ:Operand->Value}
theorem gS (P:Program) (t:TypeId) (h:P.cellsOf t≠0) (w:World):(sizeOf t).run P w=.ok (P.cellsOf t) w:=by
 unfold Program.cellsOf at h⊢
 cases hi:P.info? t with
 |none=>simp[hi]at h
 |some i=>simp[sizeOf,typeInfo,program,Sem.run,hi,Sem.run_bind,Result.andThen]
end
section
variable {P:Program} {o:Oper} {w:World} {ρ:Operand->Value}
theorem aQ (P:Program) (t:TypeId) (h:(P.info? t).isSome=true) (w:World):(sizeOf t).run P w=.ok (P.cellsOf t) w:=by
 unfold Program.cellsOf
 cases hi:P.info? t with
 |none=>simp[hi]at h
 |some i=>simp[sizeOf,typeInfo,program,Sem.run,hi,Sem.run_bind,Result.andThen]
end
section
variable {P:Program} {o:Oper} {w:World} {ρ:Operand->Value}
theorem oh {H:Hp} (hw:w.heap=H) {a:Addr} {v:Value} (h:cell H a=some v):(load a).run P w=.ok v w:=by
 have:w.cell? a=some v:=by rw[Ay,hw];exact h
 simp[load,Sem.run,this]
end
theorem fY {P:Program} {w:World} {t:TypeId} {x y:Value} {b:Bool} (h:∀d,(Op.equalIn (d+3) t x y).run P w=.ok b w):(Op.equal t x y).run P w=.ok b w:=h 9997
end Go.Mg
namespace Go.Mg
open Go Go.RowKit
def aR (H:Hp) (p:Addr) (n:Nat):Option (Array Value):=
 if p.spot.isSome then none else
 match H[p.block]? with
 |some (.cells C _ _)=>if p.off+n<=C.size then some (C.extract p.off (p.off+n))else none
 |_=>none
def aI (H:Hp) (v:Value) (n:Nat):Option (Array Value):=match v with|.pointer (some p)=>aR H p n|_=>none
theorem dR (p : Addr) (hp : p.spot = none) (i : Nat) : p.add i = ⟨p.block, p.off + i, none⟩ := by
  cases p with | mk b o s => cases hp; unfold Addr.add; split
                             · rename_i h; subst h; rfl
                             · rfl
variable {P:Program} {w:World} {C:Array Value} {T:TypeId} {p:Addr} {xs:List Value} {off b:Nat} {x:Value} {H:Hp} {o:Obj}
theorem kh (p:Addr) (hp:p.spot=none) {z:Nat×Nat} (hb:w.heap[p.block]?=some (.cells C T z)):
  ∀(n i:Nat) (acc:Array Value),p.off+i+n<=C.size->(loadCellsFrom p i n acc).run P w=.ok (acc++C.extract (p.off+i) (p.off+i+n)) w:=by
 intro n
 induction n with
 |zero=>intro i acc _;simp[loadCellsFrom];exact Nat.min_le_left _ _
 |succ n ih=>
  intro i acc h;have hlt:p.off+i<C.size:=by omega
  have hc:cell w.heap (p.add i)=some (C[p.off+i]):=by
   rw[dR p hp];simp[cell,hb,hlt]
  simp only[loadCellsFrom,Sem.run_bind,oh rfl hc,Result.andThen];rw[ih (i+1) _ (by omega)]
  congr 1
  apply Array.ext';simp only[Array.toList_append,Array.toList_push,Array.toList_extract,List.extract_eq_take_drop];have e1:p.off+(i+1)+n -(p.off+(i+1))=n:=by omega
  have e2:p.off+i+(n+1) -(p.off+i)=n+1:=by omega
  rw[e1,e2,List.append_assoc]
  congr 1
  have hl:p.off+i<C.toList.length:=by simpa using hlt
  rw[List.drop_eq_getElem_cons hl,List.take_succ_cons];simp[Nat.add_assoc]
theorem nB {n:Nat} {xs:Array Value} (h:aR w.heap p n=some xs):(loadCells p n).run P w=.ok xs w:=by
 unfold aR at h
 split at h
 ·cases h
 ·rename_i hs;have hs:p.spot=none:=by simpa using hs
  split at h
  ·rename_i C T z hb
   split at h
   ·rename_i hle
    cases h
    have:=kh (P:=P) p hs hb n 0 #[] (by omega);simpa[loadCells]using this
   ·cases h
  ·cases h
def gQ (C:Array Value) (off:Nat) (xs:List Value):Array Value:=(C.toList.take off++xs++C.toList.drop (off+xs.length)).toArray
def aA (H:Hp) (p:Addr) (xs:List Value):Hp:=
 H.modify p.block fun
  |.cells C T z=>.cells (gQ C p.off xs) T z
  |o=>o
def vy (H:Hp) (v:Value) (xs:List Value):Hp:=match v with|.pointer (some p)=>aA H p xs|_=>H
def bK (H:Hp) (p:Addr) (n:Nat):Prop:=p.spot=none/\∃C T z,H[p.block]?=some (.cells C T z)/\p.off+n<=C.size/\∀i,i<n->j8 H ⟨p.block,p.off+i,none⟩=false
def QD (H:Hp) (v:Value) (n:Nat):Prop:=match v with|.pointer (some p)=>bK H p n|_=>False
theorem vz (h:off+xs.length<=C.size):(gQ C off xs).size=C.size:=by
 simp[gQ];omega
theorem Az (C:Array Value) (off:Nat):gQ C off []=C:=by simp[gQ]
theorem vA (h:off+(xs.length+1)<=C.size):gQ (C.setIfInBounds off x) (off+1) xs=gQ C off (x::xs):=by
 obtain⟨l⟩:=C;simp only[List.size_toArray]at h;simp only[gQ,List.setIfInBounds_toArray]
 congr 1
 have h1:off<l.length:=by omega
 have h2:(l.set off x).take (off+1)=l.take off++[x]:=by
  rw[List.take_set,List.take_succ_eq_append_getElem h1,List.set_append];simp[Nat.min_eq_left (Nat.le_of_lt h1)]
 have h3:(l.set off x).drop (off+1+xs.length)=l.drop (off+(xs.length+1)):=by
  rw[List.drop_set_of_lt (by omega)]
  congr 1;omega
 simp[h2,h3]
theorem ki (h:H[b]?=some o) (f:Obj->Obj):H.modify b f=H.setIfInBounds b (f o):=by
 have hb:b<H.size:=(Array.getElem?_eq_some_iff.1 h).1;apply Array.ext_getElem?;intro i;rw[Array.getElem?_modify,Array.getElem?_setIfInBounds]
 split
 ·rename_i hi;subst hi;rw[h];rfl
 ·rfl
theorem oj (hp:p.spot=none) {z:Nat×Nat} (hb:H[p.block]?=some (.cells C T z)):
  al H p x=H.setIfInBounds p.block (.cells (C.setIfInBounds p.off x) T z):=by
 unfold al;rw[ki hb];simp[hp]
theorem om {z:Nat×Nat} (hb:H[p.block]?=some (.cells C T z)):
  aA H p xs=H.setIfInBounds p.block (.cells (gQ C p.off xs) T z):=by
 unfold aA;rw[ki hb]
theorem cw {o':Obj} (h:H[b]?=some o):(H.setIfInBounds b o')[b]?=some o':=by
 have hb:b<H.size:=(Array.getElem?_eq_some_iff.1 h).1;simp[hb]
theorem No (H:Hp) (b:Nat) (o o':Obj):(H.setIfInBounds b o).setIfInBounds b o'=H.setIfInBounds b o':=by
 apply Array.ext_getElem?;intro i;rw[Array.getElem?_setIfInBounds,Array.getElem?_setIfInBounds,Array.getElem?_setIfInBounds]
 split
 ·simp
 ·rfl
theorem IQ (h:H[b]?=some o):H.setIfInBounds b o=H:=by
 have hb:b<H.size:=(Array.getElem?_eq_some_iff.1 h).1;apply Array.ext_getElem?;intro i;rw[Array.getElem?_setIfInBounds]
 split
 ·rename_i hi;subst hi;rw[h]
 ·rfl
theorem rk (h1:(cell w.heap p).isSome=true) (h2:j8 w.heap p=false) (h3:x.oneCell'=true):(store p x).run P w=.ok () (w.setCell p x):=by
 obtain⟨v,hv⟩:=Option.isSome_iff_exists.1 h1;have hc:w.cell? p=some v:=hv;have hf:w.frozen? p=false:=h2;unfold store
 cases x<;>first|(simp only[Sem.run,hc,hf,Bool.false_eq_true,if_false];done)|cases h3
theorem oo (p:Addr) (hp:p.spot=none) {z:Nat×Nat}:
  ∀(xs:List Value) (i:Nat) (C:Array Value) (w:World),w.heap[p.block]?=some (.cells C T z)->p.off+i+xs.length<=C.size→
   (∀j,j<i+xs.length->j8 w.heap ⟨p.block,p.off+j,none⟩=false)->(∀x∈xs,x.oneCell'=true)→
   (storeCells p xs i).run P w=.ok () {w with heap:=w.heap.setIfInBounds p.block (.cells (gQ C (p.off+i) xs) T z)}:=by
 intro xs
 induction xs with
 |nil=>
  intro i C w hb _ _ _;rw[Az,IQ hb];simp[storeCells]
 |cons x xs ih=>
  intro i C w hb hlen hfr hx;simp only[List.length_cons]at hlen hfr;have hlt:p.off+i<C.size:=by omega
  have ha:=dR p hp i;have hc:(cell w.heap (p.add i)).isSome=true:=by rw[ha];simp[cell,hb,hlt]
  have hf:j8 w.heap (p.add i)=false:=by rw[ha];exact hfr i (by omega)
  have h1:=rk (P:=P) hc hf (hx x (by simp));have hset:w.setCell (p.add i) x={w with heap:=w.heap.setIfInBounds p.block (.cells (C.setIfInBounds (p.off+i) x) T z)}:=by
   rw[IP,ha,oj (p:=⟨p.block,p.off+i,none⟩) rfl hb]
  simp only[storeCells,Sem.run_bind,h1,Result.andThen,hset];have jz:({w with heap:=w.heap.setIfInBounds p.block (.cells (C.setIfInBounds (p.off+i) x) T z)}:World).heap[p.block]?=some (.cells (C.setIfInBounds (p.off+i) x) T z):=cw hb;rw[ih (i+1) _ _ jz (by simp;omega) ?_ (fun y hy=>hx y (by simp[hy]))]
  ·simp only[No];rw[show p.off+(i+1)=p.off+i+1 by omega,vA (by omega)]
  ·intro j hj;have:=hfr j (by omega);simp only[j8,hb,cw hb]at this⊢;exact this
theorem AA (h:bK w.heap p xs.length) (hx:∀x∈xs,x.oneCell'=true):(storeCells p xs).run P w=.ok () {w with heap:=aA w.heap p xs}:=by
 obtain⟨hp,C,T,z,hb,hl,hf⟩:=h;rw[oo p hp xs 0 C w hb (by omega) (fun j hj=>hf j (by omega)) hx,om hb]
 rfl
end Go.Mg
