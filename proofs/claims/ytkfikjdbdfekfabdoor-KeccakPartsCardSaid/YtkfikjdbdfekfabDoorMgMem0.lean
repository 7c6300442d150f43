/- Lemmas of ours. No conditions. -/
import Derived.Test.YtkfikjdbdfekfabDoorMgBas
namespace Go.Mg
open Go Go.RowKit
def aJ (H:Hp) (p:Addr) (n:Nat):Option (Array Value):=
 if p.spot.isSome then none else
 match H[p.block]? with
 |some (.cells C _ _)=>if p.off+n<=C.size then some (C.extract p.off (p.off+n))else none
 |_=>none
def cS (H:Hp) (v:Value) (n:Nat):Option (Array Value):=match v with|.pointer (some p)=>aJ H p n|_=>none
theorem bj (p : Addr) (hp : p.spot = none) (i : Nat) : p.add i = ⟨p.block, p.off + i, none⟩ := by
  cases p with | mk b o s => cases hp; unfold Addr.add; split
                             · rename_i h; subst h; rfl
                             · rfl
variable {P:Program} {w:World} {C:Array Value} {T:TypeId} {p:Addr} {xs:List Value} {off b:Nat} {x:Value} {H:Hp} {o:Obj}
theorem cT (p:Addr) (hp:p.spot=none) {z:Nat×Nat} (hb:w.heap[p.block]?=some (.cells C T z)):
  ∀(n i:Nat) (acc:Array Value),p.off+i+n<=C.size->(loadCellsFrom p i n acc).run P w=.ok (acc++C.extract (p.off+i) (p.off+i+n)) w:=by
 intro n
 induction n with
 |zero=>intro i acc _;simp[loadCellsFrom];exact Nat.min_le_left _ _
 |succ n ih=>
  intro i acc h;have hlt:p.off+i<C.size:=by omega
  have hc:cell w.heap (p.add i)=some (C[p.off+i]):=by
   rw[bj p hp];simp[cell,hb,hlt]
  simp only[loadCellsFrom,Sem.run_bind,en rfl hc,Result.andThen];rw[ih (i+1) _ (by omega)]
  congr 1
  apply Array.ext';simp only[Array.toList_append,Array.toList_push,Array.toList_extract,List.extract_eq_take_drop];have e1:p.off+(i+1)+n -(p.off+(i+1))=n:=by omega
  have e2:p.off+i+(n+1) -(p.off+i)=n+1:=by omega
  rw[e1,e2,List.append_assoc]
  congr 1
  have hl:p.off+i<C.toList.length:=by simpa using hlt
  rw[List.drop_eq_getElem_cons hl,List.take_succ_cons];simp[Nat.add_assoc]
theorem dW {n:Nat} {xs:Array Value} (h:aJ w.heap p n=some xs):(loadCells p n).run P w=.ok xs w:=by
 unfold aJ at h
 split at h
 ·cases h
 ·rename_i hs;have hs:p.spot=none:=by simpa using hs
  split at h
  ·rename_i C T z hb
   split at h
   ·rename_i hle
    cases h
    have:=cT (P:=P) p hs hb n 0 #[] (by omega);simpa[loadCells]using this
   ·cases h
  ·cases h
def gg (C:Array Value) (off:Nat) (xs:List Value):Array Value:=(C.toList.take off++xs++C.toList.drop (off+xs.length)).toArray
def a6 (H:Hp) (p:Addr) (xs:List Value):Hp:=
 H.modify p.block fun
  |.cells C T z=>.cells (gg C p.off xs) T z
  |o=>o
def pq (H:Hp) (v:Value) (xs:List Value):Hp:=match v with|.pointer (some p)=>a6 H p xs|_=>H
def eo (H:Hp) (p:Addr) (n:Nat):Prop:=p.spot=none/\∃C T z,H[p.block]?=some (.cells C T z)/\p.off+n<=C.size/\∀i,i<n->cE H ⟨p.block,p.off+i,none⟩=false
def sN (H:Hp) (v:Value) (n:Nat):Prop:=match v with|.pointer (some p)=>eo H p n|_=>False
theorem hP (h:off+xs.length<=C.size):(gg C off xs).size=C.size:=by
 simp[gg];omega
theorem jM (C:Array Value) (off:Nat):gg C off []=C:=by simp[gg]
theorem hU (h:off+(xs.length+1)<=C.size):gg (C.setIfInBounds off x) (off+1) xs=gg C off (x::xs):=by
 obtain⟨l⟩:=C;simp only[List.size_toArray]at h;simp only[gg,List.setIfInBounds_toArray]
 congr 1
 have h1:off<l.length:=by omega
 have h2:(l.set off x).take (off+1)=l.take off++[x]:=by
  rw[List.take_set,List.take_succ_eq_append_getElem h1,List.set_append];simp[Nat.min_eq_left (Nat.le_of_lt h1)]
 have h3:(l.set off x).drop (off+1+xs.length)=l.drop (off+(xs.length+1)):=by
  rw[List.drop_set_of_lt (by omega)]
  congr 1;omega
 simp[h2,h3]
theorem cU (h:H[b]?=some o) (f:Obj->Obj):H.modify b f=H.setIfInBounds b (f o):=by
 have hb:b<H.size:=(Array.getElem?_eq_some_iff.1 h).1;apply Array.ext_getElem?;intro i;rw[Array.getElem?_modify,Array.getElem?_setIfInBounds]
 split
 ·rename_i hi;subst hi;rw[h];rfl
 ·rfl
theorem ep (hp:p.spot=none) {z:Nat×Nat} (hb:H[p.block]?=some (.cells C T z)):
  al H p x=H.setIfInBounds p.block (.cells (C.setIfInBounds p.off x) T z):=by
 unfold al;rw[cU hb];simp[hp]
theorem er {z:Nat×Nat} (hb:H[p.block]?=some (.cells C T z)):
  a6 H p xs=H.setIfInBounds p.block (.cells (gg C p.off xs) T z):=by
 unfold a6;rw[cU hb]
theorem aG {o':Obj} (h:H[b]?=some o):(H.setIfInBounds b o')[b]?=some o':=by
 have hb:b<H.size:=(Array.getElem?_eq_some_iff.1 h).1;simp[hb]
theorem pr (H:Hp) (b:Nat) (o o':Obj):(H.setIfInBounds b o).setIfInBounds b o'=H.setIfInBounds b o':=by
 apply Array.ext_getElem?;intro i;rw[Array.getElem?_setIfInBounds,Array.getElem?_setIfInBounds,Array.getElem?_setIfInBounds]
 split
 ·simp
 ·rfl
theorem nn (h:H[b]?=some o):H.setIfInBounds b o=H:=by
 have hb:b<H.size:=(Array.getElem?_eq_some_iff.1 h).1;apply Array.ext_getElem?;intro i;rw[Array.getElem?_setIfInBounds]
 split
 ·rename_i hi;subst hi;rw[h]
 ·rfl
theorem fJ (h1:(cell w.heap p).isSome=true) (h2:cE w.heap p=false) (h3:x.oneCell'=true):(store p x).run P w=.ok () (w.setCell p x):=by
 obtain⟨v,hv⟩:=Option.isSome_iff_exists.1 h1;have hc:w.cell? p=some v:=hv;have hf:w.frozen? p=false:=h2;unfold store
 cases x<;>first|(simp only[Sem.run,hc,hf,Bool.false_eq_true,if_false];done)|cases h3
theorem et (p:Addr) (hp:p.spot=none) {z:Nat×Nat}:
  ∀(xs:List Value) (i:Nat) (C:Array Value) (w:World),w.heap[p.block]?=some (.cells C T z)->p.off+i+xs.length<=C.size→
   (∀j,j<i+xs.length->cE w.heap ⟨p.block,p.off+j,none⟩=false)->(∀x∈xs,x.oneCell'=true)→
   (storeCells p xs i).run P w=.ok () {w with heap:=w.heap.setIfInBounds p.block (.cells (gg C (p.off+i) xs) T z)}:=by
 intro xs
 induction xs with
 |nil=>
  intro i C w hb _ _ _;rw[jM,nn hb];simp[storeCells]
 |cons x xs ih=>
  intro i C w hb hlen hfr hx;simp only[List.length_cons]at hlen hfr;have hlt:p.off+i<C.size:=by omega
  have ha:=bj p hp i;have hc:(cell w.heap (p.add i)).isSome=true:=by rw[ha];simp[cell,hb,hlt]
  have hf:cE w.heap (p.add i)=false:=by rw[ha];exact hfr i (by omega)
  have h1:=fJ (P:=P) hc hf (hx x (by simp));have sP:w.setCell (p.add i) x={w with heap:=w.heap.setIfInBounds p.block (.cells (C.setIfInBounds (p.off+i) x) T z)}:=by
   rw[nm,ha,ep (p:=⟨p.block,p.off+i,none⟩) rfl hb]
  simp only[storeCells,Sem.run_bind,h1,Result.andThen,sP];have lK:({w with heap:=w.heap.setIfInBounds p.block (.cells (C.setIfInBounds (p.off+i) x) T z)}:World).heap[p.block]?=some (.cells (C.setIfInBounds (p.off+i) x) T z):=aG hb;rw[ih (i+1) _ _ lK (by simp;omega) ?_ (fun y hy=>hx y (by simp[hy]))]
  ·simp only[pr];rw[show p.off+(i+1)=p.off+i+1 by omega,hU (by omega)]
  ·intro j hj;have:=hfr j (by omega);simp only[cE,hb,aG hb]at this⊢;exact this
theorem jN (h:eo w.heap p xs.length) (hx:∀x∈xs,x.oneCell'=true):(storeCells p xs).run P w=.ok () {w with heap:=a6 w.heap p xs}:=by
 obtain⟨hp,C,T,z,hb,hl,hf⟩:=h;rw[et p hp xs 0 C w hb (by omega) (fun j hj=>hf j (by omega)) hx,er hb]
 rfl
end Go.Mg
