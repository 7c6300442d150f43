/- Lemmas of ours. No conditions. -/
import Derived.Test.YtkfikjdbdfekfabDoorMgTvk
namespace Go.Mg
open Go Go.RowKit
@[go_sem] theorem k7 (a:Option Addr) (l c size:Nat) (lo hi:Option Int):fK (.slice a l c) size lo hi=.slice (if c=dM lo then a else a.map (·.add (dM lo*size))) (jO l hi -dM lo) (c -dM lo):=rfl
@[go_sem] theorem rC (a:Addr) (n size:Nat) (lo hi:Option Int):pt (.pointer (some a)) n size lo hi=.slice (some (if n=dM lo then a else a.add (dM lo*size))) (jO n hi -dM lo) (n -dM lo):=rfl
@[go_sem] theorem su (r:A->Value) (x:A):oi r (some x)=some (r x).i:=rfl
@[go_sem] theorem sw (r:A->Value):oi r none=none:=rfl
@[go_sem] theorem p3 (a:Option Addr) (n c size l h m:Nat):pv (.slice a n c) size l h m=.slice (if m=l then a else a.map (·.add (l*size))) (h -l) (m -l):=rfl
attribute [go_sem] Option.map_some Option.map_none Option.getD_none Int.toNat_zero Nat.sub_zero Nat.add_zero
@[go_sem] theorem rD (n:Nat):((no_index (OfNat.ofNat n):Int)).toNat=OfNat.ofNat n:=by
 show((n:Nat):Int).toNat=n
 simp
def fD (l:List Value) (off:Nat) (xs:List Value):List Value:=l.take off++xs++l.drop (off+xs.length)
theorem nP (l:List Value) (off:Nat):fD l off []=l:=by simp[fD]
variable {l xs:List Value} {off b o n c k z:Nat} {H A B H':Hp} {p:Addr} {W:Nat->Prop} {T:TypeId} {v:Value} {P:Program} {d:D} {r:List O} {e:Env} {f:Fr} {Q:Fr->Hp->Prop}
theorem nQ (h:off+xs.length<=l.length):(fD l off xs).length=l.length:=by
 simp[fD];omega
theorem ec (l xs:List Value) (h:xs.length=l.length):fD l 0 xs=xs:=by simp[fD,h]
theorem aY (hb:b≠p.block):(a6 H p xs)[b]?=H[b]?:=by
 unfold a6;rw[Array.getElem?_modify,if_neg (fun e=>hb e.symm)]
theorem du (H:Hp) (p:Addr) (xs:List Value):(a6 H p xs).size=H.size:=by simp[a6]
theorem Bl.a6 (h:Bl H b l) (o:Nat) (xs:List Value):Bl (Mg.a6 H ⟨b,o,none⟩ xs) b (fD l o xs):=by
 obtain⟨T,h⟩:=h;refine⟨T,?_⟩;rw[er (p:=⟨b,o,none⟩) h,aG h];simp[gg,fD]
theorem Bl.nR (h:Bl H b l) (xs:List Value) (hb:b≠p.block):Bl (Mg.a6 H p xs) b l:=by
 obtain⟨T,h⟩:=h;exact⟨T,by rw[aY hb];exact h⟩
theorem ae.a6 (h:ae W A B) (xs:List Value) (hp:W p.block\/A.size<=p.block):ae W A (Mg.a6 B p xs):=by
 refine⟨by rw[du];exact h.size,fun k hk hw=>?_⟩;rw[aY (by rintro rfl;rcases hp with hp|hp;exact hw hp;omega)];exact h.at_ k hk hw
theorem Bl.eo (h:Bl H b l) (hn:o+n<=l.length):Mg.eo H ⟨b,o,none⟩ n:=by
 have h':=h;obtain⟨T,h⟩:=h;exact⟨rfl,_,_,_,h,by simpa using hn,fun i _=>h'.cE _⟩
theorem Bl.aJ (h:Bl H b l) (hn:o+n<=l.length):Mg.aJ H ⟨b,o,none⟩ n=some ((l.drop o).take n).toArray:=by
 obtain⟨T,h⟩:=h;unfold Mg.aJ;simp only[h,Option.isSome_none,Bool.false_eq_true,if_false,List.size_toArray,hn,if_true];simp[List.extract_eq_take_drop]
theorem Bl.cS (h:Bl H b l) (n:Nat) (hn:n=l.length):Mg.cS H (.pointer (some ⟨b,0,none⟩)) n=some l.toArray:=by
 subst hn;have:=h.aJ (o:=0) (n:=l.length) (by omega);simpa[Mg.cS]using this
def aC (H:Hp) (v:Value) (l:List Value):Prop:=
 (∃a c,v=.slice a 0 c/\l=[])\/∃b o c,l≠[]/\v=.slice (some ⟨b,o,none⟩) l.length c/\l.length<=c/\∃C T z,H[b]?=some (.cells C T z)/\o+l.length<=C.size/\(C.toList.drop o).take l.length=l
def cQ:Value->Nat->Prop
 |.slice (some p) n _,k=>k=p.block/\n≠0
 |_,_=>False
theorem aC.nil (H:Hp) (a:Option Addr) (c:Nat):aC H (.slice a 0 c) []:=.inl ⟨a,c,rfl,rfl⟩
theorem aC.at_ {C:Array Value} {z:Nat×Nat} (hc:l.length<=c) (h:H[b]?=some (.cells C T z)) (h1:o+l.length<=C.size) (h2:(C.toList.drop o).take l.length=l):
  aC H (.slice (some ⟨b,o,none⟩) l.length c) l:=by
 by_cases hl:l=[]
 ·subst hl;exact aC.nil _ _ _
 ·exact .inr ⟨b,o,c,hl,rfl,hc,C,T,z,h,h1,h2⟩
theorem aC.congr (h:aC H v l) (hk:∀k,cQ v k->H'[k]?=H[k]?):aC H' v l:=by
 rcases h with h|⟨b,o,c,hl,rfl,h0,C,T,z,h1,h2,h3⟩
 ·exact .inl h
 ·exact .inr ⟨b,o,c,hl,rfl,h0,C,T,z,by rw[hk b ⟨rfl,by simpa using hl⟩];exact h1,h2,h3⟩
theorem aC.nS (h:aC H v l) (hk:cQ v k):k<H.size:=by
 rcases h with⟨a,c,rfl,_⟩|⟨b,o,c,_,rfl,h0,C,T,z,h1,h2,h3⟩
 ·cases a<;>simp[cQ]at hk
 ·obtain⟨rfl,_⟩:=hk;exact(Array.getElem?_eq_some_iff.1 h1).1
theorem aC.ax (h:aC H v l) (hk:ae W H H') (hw:∀k,cQ v k->¬W k):aC H' v l:=
 h.congr fun k hb=>hk.at_ k (h.nS hb) (hw k hb)
theorem aC.aT (h:aC H v l):Mg.aT v:=by
 rcases h with⟨a,c,rfl,_⟩|⟨b,o,c,_,rfl,_⟩<;>trivial
theorem aC.len (h:aC H v l):av v=l.length:=by
 rcases h with⟨a,c,rfl,rfl⟩|⟨b,o,c,_,rfl,_⟩<;>rfl
theorem aC.aF (h:aC H v l):Mg.aF v=l.length:=by
 rcases h with⟨a,c,rfl,rfl⟩|⟨b,o,c,_,rfl,_⟩<;>rfl
theorem p4 (H:Hp) (a:Option Addr) (n c:Nat):Mg.bD H (.slice a n c) 0=some #[]:=by
 cases a<;>simp[Mg.bD]
theorem aC.bD (h:aC H v l) (hk:k<=l.length):Mg.bD H v k=some (l.take k).toArray:=by
 rcases h with⟨a,c,rfl,rfl⟩|⟨b,o,c,_,rfl,h0,C,T,z,h1,h2,h3⟩
 ·have:k=0:=by simpa using hk
  subst this;rw[p4];simp
 ·show(if k=0 then some #[]else Mg.aJ H ⟨b,o,none⟩ k)=_
  split
  ·rename_i wS;subst wS;simp
  ·simp only[Mg.aJ,Option.isSome_none,Bool.false_eq_true,if_false,h1];rw[if_pos (by omega)]
   congr 1
   apply Array.ext';simp only[Array.toList_extract,List.extract_eq_take_drop,Nat.add_sub_cancel_left];rw[<-h3,List.take_take,Nat.min_eq_left hk]
theorem aC.bl (h:Bl H b l) (o n c:Nat) (hc:n<=c) (hn:o+n<=l.length):aC H (.slice (some ⟨b,o,none⟩) n c) ((l.drop o).take n):=by
 obtain⟨T,h⟩:=h;have e:((l.drop o).take n).length=n:=by simp;omega
 have:=aC.at_ (l:=(l.drop o).take n) (o:=o) (c:=c) (by rw[e];exact hc) h (by rw[e];simpa using hn) (by rw[e])
 rwa [e]at this
theorem aC.drop (h:aC H v l) (hn:n<=l.length):aC H (fK v 1 (some (n:Int)) none) (l.drop n):=by
 rcases h with⟨a,c,rfl,rfl⟩|⟨b,o,c,jT,rfl,h0,C,T,z,h1,h2,h3⟩
 ·have:n=0:=by simpa using hn
  subst this;exact .inl ⟨_,c -0,rfl,by simp⟩
 ·have hl:(l.drop n).length=l.length -n:=by simp
  by_cases hc:c=n
  ·have:=aC.at_ (l:=l.drop n) (o:=o) (c:=c -n) (by omega) h1 (by omega) (by
    rw[hl]
    conv=>rhs;rw[<-h3]
    rw[List.drop_take];have:l.length -n=0:=by omega
    simp[this])
   rw[hl]at this;simp[fK,dM,jO,hc]at this⊢;exact this
  ·have:=aC.at_ (l:=l.drop n) (o:=o+n) (c:=c -n) (by omega) h1 (by omega) (by
    rw[hl]
    conv=>rhs;rw[<-h3]
    rw[List.drop_take,List.drop_drop])
   rw[hl]at this;simp[fK,dM,jO,hc,bj]at this⊢;exact this
theorem aC.mk (h:aC H v l):∃a c,v=.slice a l.length c/\l.length<=c:=by
 rcases h with⟨a,c,rfl,rfl⟩|⟨b,o,c,_,rfl,h0,_⟩
 ·exact⟨a,c,rfl,Nat.zero_le _⟩
 ·exact⟨_,c,rfl,h0⟩
theorem eP {n:Int} (h:cQ (fK v z (some n) none) k):cQ v k:=by
 cases v with
 |slice a m c=>
  cases a with
  |none=>simp[fK,cQ]at h
  |some p=>
   simp only[fK]at h
   split at h
   ·exact⟨h.1,by have:=h.2;simp only[jO]at this;omega⟩
   ·simp only[Option.map_some,cQ,Addr.add]at h;have:(p.add (dM (some n)*z)).block=p.block:=by unfold Addr.add;split<;>rfl
    exact⟨h.1.trans this,by have:=h.2;simp only[jO]at this;omega⟩
 |_=>exact h
theorem ml (hn:n<=av v) (h:cQ (fK v z none (some (n:Int))) k):cQ v k:=by
 cases v with
 |slice a m c=>
  cases a with
  |none=>simp[fK,cQ]at h
  |some p=>
   simp only[av]at hn;simp only[fK]at h
   split at h
   ·exact⟨h.1,by have:=h.2;simp only[jO,Int.toNat_natCast]at this;omega⟩
   ·simp only[Option.map_some,cQ,Addr.add]at h;have:(p.add (dM none*z)).block=p.block:=by unfold Addr.add;split<;>rfl
    exact⟨h.1.trans this,by have:=h.2;simp only[jO,Int.toNat_natCast]at this;omega⟩
 |_=>exact h
theorem aC.take (h:aC H v l) (hn:n<=l.length):aC H (fK v 1 none (some (n:Int))) (l.take n):=by
 rcases h with⟨a,c,rfl,rfl⟩|⟨b,o,c,jT,rfl,h0,C,T,z,h1,h2,h3⟩
 ·have:n=0:=by simpa using hn
  subst this;exact .inl ⟨_,c -0,rfl,by simp⟩
 ·have hl:(l.take n).length=n:=by simp;omega
  have:=aC.at_ (l:=l.take n) (o:=o) (c:=c) (by omega) h1 (by omega) (by
   rw[hl]
   conv=>rhs;rw[<-h3]
   rw[List.take_take,Nat.min_eq_left hn])
  rw[hl]at this;simp[fK,dM,jO,bj]at this⊢;exact this
theorem aC.cap (h:aC H v l):l.length<=bp v:=by
 rcases h with⟨a,c,rfl,rfl⟩|⟨b,o,c,_,rfl,h0,_⟩
 ·exact Nat.zero_le _
 ·exact h0
theorem Bl.put (h:Bl H b l) (o off:Nat) (xs:Array Value):Bl (bE H (some ⟨b,o,none⟩) off xs) b (fD l (o+off) xs.toList):=by
 unfold bE;simp only
 split
 ·rename_i h0;have:xs.toList=[]:=by apply List.eq_nil_of_length_eq_zero;simpa using h0
  rw[this,nP];exact h
 ·rw[bj _ rfl];exact h.a6 _ _
theorem bK {xs:Array Value} (hb:b≠p.block) (hs:p.spot=none):(bE H (some p) off xs)[b]?=H[b]?:=by
 unfold bE;simp only
 split
 ·rfl
 ·rw[bj _ hs];exact aY hb
theorem fS (H:Hp) (a:Option Addr) (off:Nat) (xs:Array Value):(bE H a off xs).size=H.size:=by
 unfold bE
 split
 ·rfl
 ·split
  ·rfl
  ·exact du _ _ _
theorem Bl.mm (h:Bl H b l) (hs:p.spot=none) (off:Nat) (xs:Array Value) (hb:b≠p.block):Bl (bE H (some p) off xs) b l:=by
 obtain⟨T,h⟩:=h;exact⟨T,by rw[bK hb hs];exact h⟩
theorem ae.put (h:ae W A B) (hs:p.spot=none) (off:Nat) (xs:Array Value) (hp:W p.block\/A.size<=p.block):ae W A (bE B (some p) off xs):=by
 refine⟨by rw[fS];exact h.size,fun k hk hw=>?_⟩;rw[bK (by rintro rfl;rcases hp with hp|hp;exact hw hp;omega) hs];exact h.at_ k hk hw
theorem Bl.b6 (h:Bl H b l) (o off:Nat) (xs:Array Value) (h1:iX xs) (hn:o+off+xs.size<=l.length):b6 H (some ⟨b,o,none⟩) off xs:=by
 refine⟨h1,.inr ?_⟩;rw[bj _ rfl];exact h.eo hn
def w8 (l:List UInt8):List Value:=l.map fun x=>.int .u8 x.toNat
theorem af (l:List UInt8):(w8 l).length=l.length:=by simp[w8]
theorem bR (l:List UInt8) (i:Nat) (h:i<l.length):(w8 l)[i]?=some (.int .u8 (l.getD i 0).toNat):=by
 simp[w8,h]
theorem mo (a b:List UInt8):w8 (a++b)=w8 a++w8 b:=by simp[w8]
theorem ee (a:List UInt8) (n:Nat):(w8 a).take n=w8 (a.take n):=by simp[w8]
theorem j3 (a:List UInt8) (n:Nat):(w8 a).drop n=w8 (a.drop n):=by simp[w8]
theorem eQ (l:List UInt8) (i:Nat) (x:UInt8):(w8 l).set i (.int .u8 x.toNat)=w8 (l.set i x):=by
 simp[w8,List.map_set]
theorem je (n:Nat):List.replicate n (Value.int .u8 0)=w8 (List.replicate n 0):=by simp[w8]
theorem bS (l:List UInt8):iX (w8 l).toArray:=by
 intro x hx;simp[w8]at hx;obtain⟨y,_,rfl⟩:=hx;rfl
theorem qI {k:FuncId} {a:Array Value} {R:Value->Hp->Prop} (h:∀Q,Q=R->ai P k a H Q):ai P k a H R:=h R rfl
theorem aR {z:Array Value}
  (h:∀H' b,b=H.size->H'.size=H.size+1->Bl H' b z.toList->ae (fun _=>False) H H'->ops P r (d.env (.pointer (some ⟨b,0,none⟩)) e) (d.fr (.pointer (some ⟨b,0,none⟩)) f) H' Q):
  kr P d r e f Q (.pointer (some ⟨H.size,0,none⟩)) (H.push (.cells z T)):=
 h _ _ rfl (by simp) (Bl.eL _ _ _) ((ae.refl _ _).push _)
theorem nT (v:Value) (n:Nat):(rep #[v] n).toList=List.replicate n v:=by
 unfold rep;simp[Nat.mod_one,List.map_const']
attribute [go_sem] List.forall_mem_cons List.flatMap_cons List.flatMap_nil List.size_toArray List.length_cons List.length_nil List.not_mem_nil false_imp_iff implies_true List.append_nil List.cons_append List.nil_append
theorem ef
  (h:∀H',H'=H->ops P r (d.env v e) (d.fr v f) H' Q):kr P d r e f Q v H:=h _ rfl
theorem dw {z:Array Value} {m:Nat}
  (h:∀H' b,b=H.size->H'.size=H.size+1->Bl H' b z.toList->ae (fun _=>False) H H'->ops P r (d.env (.slice (some ⟨b,0,none⟩) m c) e) (d.fr (.slice (some ⟨b,0,none⟩) m c) f) H' Q):
  kr P d r e f Q (.slice (some ⟨H.size,0,none⟩) m c) (H.push (.cells z T)):=h _ _ rfl (by simp) (Bl.eL _ _ _) ((ae.refl _ _).push _)
theorem Bl.bD (h:Bl H b l) (o n c k:Nat) (hk:o+k<=l.length):Mg.bD H (.slice (some ⟨b,o,none⟩) n c) k=some ((l.drop o).take k).toArray:=by
 show(if k=0 then some #[]else Mg.aJ H ⟨b,o,none⟩ k)=_
 split
 ·rename_i h0;subst h0;simp
 ·exact h.aJ hk
theorem Bl.aB (h:Bl H b l) (o n c:Nat) (hk:o+n<=l.length):Mg.aB H (.slice (some ⟨b,o,none⟩) n c)=some ((l.drop o).take n).toArray:=by
 show(if n=0 then some #[]else Mg.aJ H ⟨b,o,none⟩ n)=_
 split
 ·rename_i h0;subst h0;simp
 ·exact h.aJ hk
theorem aC.aB (h:aC H v l):Mg.aB H v=some l.toArray:=by
 rcases h with⟨a,c,rfl,rfl⟩|⟨b,o,c,hl,rfl,h0,C,T,z,h1,h2,h3⟩
 ·cases a<;>rfl
 ·show(if l.length=0 then some #[]else Mg.aJ H ⟨b,o,none⟩ l.length)=_
  rw[if_neg (by simpa using hl)];simp only[Mg.aJ,Option.isSome_none,Bool.false_eq_true,if_false,h1];rw[if_pos h2]
  congr 1
  apply Array.ext';simp only[Array.toList_extract,List.extract_eq_take_drop,Nat.add_sub_cancel_left];exact h3
theorem toBA_w8 (l:List UInt8):toBA (w8 l).toArray=⟨l.toArray⟩:=by
 have:(fun x:UInt8=>UInt8.ofNat (Value.int .u8 (x.toNat:Int)).i.toNat)=id:=by funext x;simp[Value.i]
 simp only[toBA,w8,List.map_toArray,List.map_map,Function.comp_def];rw[this];simp
theorem iH {l:List UInt8} (h:aB H v=some (w8 l).toArray):jP H v:=by
 refine⟨_,h,fun x hx=>?_⟩;simp[w8]at hx;obtain⟨y,_,rfl⟩:=hx;rfl
attribute [go_sem] true_imp_iff Bool.not_true Bool.not_false
@[go_sem] theorem sz (b:Bool):(b==true)=b:=by cases b<;>rfl
@[go_sem] theorem vr (b:Bool):(false !=b)=b:=by cases b<;>rfl
@[go_sem] theorem vt (b:Bool):(true !=b)=!b:=by cases b<;>rfl
@[go_sem] theorem sA (b:Bool):(b==false)=!b:=by cases b<;>rfl
@[go_sem] theorem sB (b:Bool):(b !=true)=!b:=by cases b<;>rfl
@[go_sem] theorem sC (b:Bool):(b !=false)=b:=by cases b<;>rfl
@[go_sem] theorem p5 (H:Hp) (z:Array Value) (T:TypeId) (m:Nat×Nat):iu (H.push (.cells z T m)) H.size=some z.size:=by simp[iu]
theorem nU (H:Hp) (z:Array Value) (T:TypeId) (n:Nat):ae (fun _=>False) H (lW (H.push (.cells z T)) H.size n)/\(lW (H.push (.cells z T)) H.size n).size=H.size+1∧
  ∀c,z.size<=c->aC (lW (H.push (.cells z T)) H.size n) (.slice (some ⟨H.size,0,none⟩) z.size c) z.toList:=by
 have hs:(lW (H.push (.cells z T)) H.size n).size=H.size+1:=by simp[lW]
 refine⟨⟨by omega,fun k hk _=>?_⟩,hs,fun c hc=>?_⟩
 ·unfold lW;rw[Array.getElem?_modify,if_neg (by omega)];exact aP hk
 ·have hm:(lW (H.push (.cells z T)) H.size n)[H.size]?=some (.cells z T (n,n+1)):=by
   unfold lW;rw[Array.getElem?_modify,if_pos rfl];simp
  have:=aC.at_ (l:=z.toList) (o:=0) (c:=c) (by simpa using hc) hm (by simp) (by rw[List.drop_zero,List.take_of_length_le (Nat.le_refl _)]);simpa using this
theorem ae.none (h:ae W A B) (hw:∀k,k<A.size->¬W k):ae (fun _=>False) A B:=
 h.mono (fun k hk hW=>hw k hk hW)
theorem ae.any (h:ae (fun _=>False) A B):ae W A B:=h.mono (fun _ _ h=>h.elim)
theorem c9 (H:Hp) (a:Addr) (xs:List Value):pq H (.pointer (some a)) xs=a6 H a xs:=rfl
theorem eg (H:Hp) (a:Addr) (n:Nat):sN H (.pointer (some a)) n=eo H a n:=rfl
theorem cr (H:Hp) (a:Addr) (n:Nat):cS H (.pointer (some a)) n=aJ H a n:=rfl
theorem bo (C:Array Value):(Value.agg C).cells=C:=rfl
@[go_sem] theorem tH (a:Value):(#[a]:Array Value)[0]?=some a:=rfl
@[go_sem] theorem tI (a b:Value):(#[a,b]:Array Value)[0]?=some a:=rfl
@[go_sem] theorem tJ (a b:Value):(#[a,b]:Array Value)[1]?=some b:=rfl
@[go_sem] theorem tK (a b c:Value):(#[a,b,c]:Array Value)[0]?=some a:=rfl
@[go_sem] theorem tL (a b c:Value):(#[a,b,c]:Array Value)[1]?=some b:=rfl
@[go_sem] theorem tM (a b c:Value):(#[a,b,c]:Array Value)[2]?=some c:=rfl
@[go_sem] theorem tN (a b c d:Value):(#[a,b,c,d]:Array Value)[0]?=some a:=rfl
@[go_sem] theorem tO (a b c d:Value):(#[a,b,c,d]:Array Value)[1]?=some b:=rfl
@[go_sem] theorem tP (a b c d:Value):(#[a,b,c,d]:Array Value)[2]?=some c:=rfl
@[go_sem] theorem tQ (a b c d:Value):(#[a,b,c,d]:Array Value)[3]?=some d:=rfl
@[go_sem] theorem tR (a b c d e:Value):(#[a,b,c,d,e]:Array Value)[0]?=some a:=rfl
@[go_sem] theorem tS (a b c d e:Value):(#[a,b,c,d,e]:Array Value)[1]?=some b:=rfl
@[go_sem] theorem tT (a b c d e:Value):(#[a,b,c,d,e]:Array Value)[2]?=some c:=rfl
@[go_sem] theorem tU (a b c d e:Value):(#[a,b,c,d,e]:Array Value)[3]?=some d:=rfl
@[go_sem] theorem tV (a b c d e:Value):(#[a,b,c,d,e]:Array Value)[4]?=some e:=rfl
@[go_sem] theorem tW (a:Value): [a][0]?=some a:=rfl
@[go_sem] theorem tX (a b:Value): [a,b][0]?=some a:=rfl
@[go_sem] theorem tY (a b:Value): [a,b][1]?=some b:=rfl
@[go_sem] theorem tZ (a b c:Value): [a,b,c][0]?=some a:=rfl
@[go_sem] theorem ua (a b c:Value): [a,b,c][1]?=some b:=rfl
@[go_sem] theorem ub (a b c:Value): [a,b,c][2]?=some c:=rfl
@[go_sem] theorem uc (a b c d:Value): [a,b,c,d][0]?=some a:=rfl
@[go_sem] theorem ud (a b c d:Value): [a,b,c,d][1]?=some b:=rfl
@[go_sem] theorem ue (a b c d:Value): [a,b,c,d][2]?=some c:=rfl
@[go_sem] theorem uf (a b c d:Value): [a,b,c,d][3]?=some d:=rfl
@[go_sem] theorem ug (a b c d e:Value): [a,b,c,d,e][0]?=some a:=rfl
@[go_sem] theorem uh (a b c d e:Value): [a,b,c,d,e][1]?=some b:=rfl
@[go_sem] theorem ui (a b c d e:Value): [a,b,c,d,e][2]?=some c:=rfl
@[go_sem] theorem uj (a b c d e:Value): [a,b,c,d,e][3]?=some d:=rfl
@[go_sem] theorem uk (a b c d e:Value): [a,b,c,d,e][4]?=some e:=rfl
@[go_sem] theorem um (a b c d e f:Value): [a,b,c,d,e,f][0]?=some a:=rfl
@[go_sem] theorem uo (a b c d e f:Value): [a,b,c,d,e,f][1]?=some b:=rfl
@[go_sem] theorem uq (a b c d e f:Value): [a,b,c,d,e,f][2]?=some c:=rfl
@[go_sem] theorem ur (a b c d e f:Value): [a,b,c,d,e,f][3]?=some d:=rfl
@[go_sem] theorem uu (a b c d e f:Value): [a,b,c,d,e,f][4]?=some e:=rfl
@[go_sem] theorem uv (a b c d e f:Value): [a,b,c,d,e,f][5]?=some f:=rfl
@[go_sem] theorem uw (a b c d e f g:Value): [a,b,c,d,e,f,g][0]?=some a:=rfl
@[go_sem] theorem ux (a b c d e f g:Value): [a,b,c,d,e,f,g][1]?=some b:=rfl
@[go_sem] theorem uy (a b c d e f g:Value): [a,b,c,d,e,f,g][2]?=some c:=rfl
@[go_sem] theorem uz (a b c d e f g:Value): [a,b,c,d,e,f,g][3]?=some d:=rfl
@[go_sem] theorem uA (a b c d e f g:Value): [a,b,c,d,e,f,g][4]?=some e:=rfl
@[go_sem] theorem uB (a b c d e f g:Value): [a,b,c,d,e,f,g][5]?=some f:=rfl
@[go_sem] theorem uC (a b c d e f g:Value): [a,b,c,d,e,f,g][6]?=some g:=rfl
end Go.Mg
