/- Lemmas of ours. No conditions. -/
import Derived.Test.YteeemadonfcliaaGreatDoorMgTvk
set_option linter.all false
namespace Go.Mg
open Go Go.RowKit
@[go_sem] theorem Cx (a:Option Addr) (l c size:Nat) (lo hi:Option Int):vl (.slice a l c) size lo hi=.slice (if c=kj lo then a else a.map (·.add (kj lo*size))) (xM l hi -kj lo) (c -kj lo):=rfl
@[go_sem] theorem RX (a:Addr) (n size:Nat) (lo hi:Option Int):Np (.pointer (some a)) n size lo hi=.slice (some (if n=kj lo then a else a.add (kj lo*size))) (xM n hi -kj lo) (n -kj lo):=rfl
@[go_sem] theorem UF (r:A->Value) (x:A):oi r (some x)=some (r x).i:=rfl
@[go_sem] theorem UG (r:A->Value):oi r none=none:=rfl
@[go_sem] theorem NU (a:Option Addr) (n c size l h m:Nat):Nq (.slice a n c) size l h m=.slice (if m=l then a else a.map (·.add (l*size))) (h -l) (m -l):=rfl
attribute [go_sem] Option.map_some Option.map_none Option.getD_none Int.toNat_zero Nat.sub_zero Nat.add_zero
@[go_sem] theorem iM (n:Nat):((no_index (OfNat.ofNat n):Int)).toNat=OfNat.ofNat n:=by
 show((n:Nat):Int).toNat=n
 simp
def iE (l:List Value) (off:Nat) (xs:List Value):List Value:=l.take off++xs++l.drop (off+xs.length)
theorem Jg (l:List Value) (off:Nat):iE l off []=l:=by simp[iE]
variable {l xs:List Value} {off b o n c k:Nat} {H A B H':Hp} {p:Addr} {W:Nat->Prop} {T:TypeId} {v:Value} {z:Array Value} {P:Program} {d:D} {r:List O} {e:Env} {f:Fr} {Q:Fr->Hp->Prop}
theorem gX (h:off+xs.length<=l.length):(iE l off xs).length=l.length:=by
 simp[iE];omega
theorem yb (C:Array Value) (off:Nat) (xs:List Value):(gQ C off xs).toList=iE C.toList off xs:=by simp[gQ,iE]
theorem nD (l xs:List Value) (h:xs.length=l.length):iE l 0 xs=xs:=by simp[iE,h]
theorem gk (hb:b≠p.block):(aA H p xs)[b]?=H[b]?:=by
 unfold aA;rw[Array.getElem?_modify,if_neg (fun e=>hb e.symm)]
theorem dP (H:Hp) (p:Addr) (xs:List Value):(aA H p xs).size=H.size:=by simp[aA]
theorem Bl.aA (h:Bl H b l) (o:Nat) (xs:List Value):Bl (Mg.aA H ⟨b,o,none⟩ xs) b (iE l o xs):=by
 obtain⟨T,h⟩:=h;refine⟨T,?_⟩;rw[om (p:=⟨b,o,none⟩) h,cw h];simp[gQ,iE]
theorem af.aA (h:af W A B) (xs:List Value) (hp:W p.block\/A.size<=p.block):af W A (Mg.aA B p xs):=by
 refine⟨by rw[dP];exact h.size,fun k hk hw=>?_⟩;rw[gk (by rintro rfl;rcases hp with hp|hp;exact hw hp;omega)];exact h.at_ k hk hw
theorem Bl.bK (h:Bl H b l) (hn:o+n<=l.length):Mg.bK H ⟨b,o,none⟩ n:=by
 have h':=h;obtain⟨T,h⟩:=h;exact⟨rfl,_,_,_,h,by simpa using hn,fun i _=>h'.j8 _⟩
theorem Bl.aR (h:Bl H b l) (hn:o+n<=l.length):Mg.aR H ⟨b,o,none⟩ n=some ((l.drop o).take n).toArray:=by
 obtain⟨T,h⟩:=h;unfold Mg.aR;simp only[h,Option.isSome_none,Bool.false_eq_true,if_false,List.size_toArray,hn,if_true];simp[List.extract_eq_take_drop]
theorem Bl.aI (h:Bl H b l) (n:Nat) (hn:n=l.length):Mg.aI H (.pointer (some ⟨b,0,none⟩)) n=some l.toArray:=by
 subst hn;have:=h.aR (o:=0) (n:=l.length) (by omega);simpa[Mg.aI]using this
def aG (H:Hp) (v:Value) (l:List Value):Prop:=
 (∃a c,v=.slice a 0 c/\l=[])\/∃b o c,l≠[]/\v=.slice (some ⟨b,o,none⟩) l.length c/\l.length<=c/\∃C T z,H[b]?=some (.cells C T z)/\o+l.length<=C.size/\(C.toList.drop o).take l.length=l
def aU:Value->Nat->Prop
 |.slice (some p) n _,k=>k=p.block/\n≠0
 |_,_=>False
theorem aG.nil (H:Hp) (a:Option Addr) (c:Nat):aG H (.slice a 0 c) []:=.inl ⟨a,c,rfl,rfl⟩
theorem aG.at_ {C:Array Value} {z:Nat×Nat} (hc:l.length<=c) (h:H[b]?=some (.cells C T z)) (h1:o+l.length<=C.size) (h2:(C.toList.drop o).take l.length=l):
  aG H (.slice (some ⟨b,o,none⟩) l.length c) l:=by
 by_cases hl:l=[]
 ·subst hl;exact aG.nil _ _ _
 ·exact .inr ⟨b,o,c,hl,rfl,hc,C,T,z,h,h1,h2⟩
theorem aG.congr (h:aG H v l) (hk:∀k,aU v k->H'[k]?=H[k]?):aG H' v l:=by
 rcases h with h|⟨b,o,c,hl,rfl,h0,C,T,z,h1,h2,h3⟩
 ·exact .inl h
 ·exact .inr ⟨b,o,c,hl,rfl,h0,C,T,z,by rw[hk b ⟨rfl,by simpa using hl⟩];exact h1,h2,h3⟩
theorem aG.bM (h:aG H v l) (hk:aU v k):k<H.size:=by
 rcases h with⟨a,c,rfl,_⟩|⟨b,o,c,_,rfl,h0,C,T,z,h1,h2,h3⟩
 ·cases a<;>simp[aU]at hk
 ·obtain⟨rfl,_⟩:=hk;exact(Array.getElem?_eq_some_iff.1 h1).1
theorem aG.ag (h:aG H v l) (hk:af W H H') (hw:∀k,aU v k->¬W k):aG H' v l:=
 h.congr fun k hb=>hk.at_ k (h.bM hb) (hw k hb)
theorem aG.ax (h:aG H v l):Mg.ax v:=by
 rcases h with⟨a,c,rfl,_⟩|⟨b,o,c,_,rfl,_⟩<;>trivial
theorem aG.len (h:aG H v l):aP v=l.length:=by
 rcases h with⟨a,c,rfl,rfl⟩|⟨b,o,c,_,rfl,_⟩<;>rfl
theorem aG.bI (h:aG H v l):Mg.bI v=l.length:=by
 rcases h with⟨a,c,rfl,rfl⟩|⟨b,o,c,_,rfl,_⟩<;>rfl
theorem yc (H:Hp) (a:Option Addr) (n c:Nat):Mg.eF H (.slice a n c) 0=some #[]:=by
 cases a<;>simp[Mg.eF]
theorem aG.eF (h:aG H v l) (hk:k<=l.length):Mg.eF H v k=some (l.take k).toArray:=by
 rcases h with⟨a,c,rfl,rfl⟩|⟨b,o,c,_,rfl,h0,C,T,z,h1,h2,h3⟩
 ·have:k=0:=by simpa using hk
  subst this;rw[yc];simp
 ·show(if k=0 then some #[]else Mg.aR H ⟨b,o,none⟩ k)=_
  split
  ·rename_i QQ;subst QQ;simp
  ·simp only[Mg.aR,Option.isSome_none,Bool.false_eq_true,if_false,h1];rw[if_pos (by omega)]
   congr 1
   apply Array.ext';simp only[Array.toList_extract,List.extract_eq_take_drop,Nat.add_sub_cancel_left];rw[<-h3,List.take_take,Nat.min_eq_left hk]
theorem aG.bl (h:Bl H b l) (o n c:Nat) (hc:n<=c) (hn:o+n<=l.length):aG H (.slice (some ⟨b,o,none⟩) n c) ((l.drop o).take n):=by
 obtain⟨T,h⟩:=h;have e:((l.drop o).take n).length=n:=by simp;omega
 have:=aG.at_ (l:=(l.drop o).take n) (o:=o) (c:=c) (by rw[e];exact hc) h (by rw[e];simpa using hn) (by rw[e])
 rwa [e]at this
theorem aG.drop (h:aG H v l) (hn:n<=l.length):aG H (vl v 1 (some (n:Int)) none) (l.drop n):=by
 rcases h with⟨a,c,rfl,rfl⟩|⟨b,o,c,hne,rfl,h0,C,T,z,h1,h2,h3⟩
 ·have:n=0:=by simpa using hn
  subst this;exact .inl ⟨_,c -0,rfl,by simp⟩
 ·have hl:(l.drop n).length=l.length -n:=by simp
  by_cases hc:c=n
  ·have:=aG.at_ (l:=l.drop n) (o:=o) (c:=c -n) (by omega) h1 (by omega) (by
    rw[hl]
    conv=>rhs;rw[<-h3]
    rw[List.drop_take];have:l.length -n=0:=by omega
    simp[this])
   rw[hl]at this;simp[vl,kj,xM,hc]at this⊢;exact this
  ·have:=aG.at_ (l:=l.drop n) (o:=o+n) (c:=c -n) (by omega) h1 (by omega) (by
    rw[hl]
    conv=>rhs;rw[<-h3]
    rw[List.drop_take,List.drop_drop])
   rw[hl]at this;simp[vl,kj,xM,hc,dR]at this⊢;exact this
theorem aG.mk (h:aG H v l):∃a c,v=.slice a l.length c/\l.length<=c:=by
 rcases h with⟨a,c,rfl,rfl⟩|⟨b,o,c,_,rfl,h0,_⟩
 ·exact⟨a,c,rfl,Nat.zero_le _⟩
 ·exact⟨_,c,rfl,h0⟩
theorem ET {z:Nat} (hn:n<=aP v) (h:aU (vl v z none (some (n:Int))) k):aU v k:=by
 cases v with
 |slice a m c=>
  cases a with
  |none=>simp[vl,aU]at h
  |some p=>
   simp only[aP]at hn;simp only[vl]at h
   split at h
   ·exact⟨h.1,by have:=h.2;simp only[xM,Int.toNat_natCast]at this;omega⟩
   ·simp only[Option.map_some,aU,Addr.add]at h;have:(p.add (kj none*z)).block=p.block:=by unfold Addr.add;split<;>rfl
    exact⟨h.1.trans this,by have:=h.2;simp only[xM,Int.toNat_natCast]at this;omega⟩
 |_=>exact h
theorem aG.take (h:aG H v l) (hn:n<=l.length):aG H (vl v 1 none (some (n:Int))) (l.take n):=by
 rcases h with⟨a,c,rfl,rfl⟩|⟨b,o,c,hne,rfl,h0,C,T,z,h1,h2,h3⟩
 ·have:n=0:=by simpa using hn
  subst this;exact .inl ⟨_,c -0,rfl,by simp⟩
 ·have hl:(l.take n).length=n:=by simp;omega
  have:=aG.at_ (l:=l.take n) (o:=o) (c:=c) (by omega) h1 (by omega) (by
   rw[hl]
   conv=>rhs;rw[<-h3]
   rw[List.take_take,Nat.min_eq_left hn])
  rw[hl]at this;simp[vl,kj,xM,dR]at this⊢;exact this
theorem aG.cap (h:aG H v l):l.length<=eO v:=by
 rcases h with⟨a,c,rfl,rfl⟩|⟨b,o,c,_,rfl,h0,_⟩
 ·exact Nat.zero_le _
 ·exact h0
theorem Bl.put (h:Bl H b l) (o off:Nat) (xs:Array Value):Bl (gV H (some ⟨b,o,none⟩) off xs) b (iE l (o+off) xs.toList):=by
 unfold gV;simp only
 split
 ·rename_i h0;have:xs.toList=[]:=by apply List.eq_nil_of_length_eq_zero;simpa using h0
  rw[this,Jg];exact h
 ·rw[dR _ rfl];exact h.aA _ _
theorem lV {xs:Array Value} (hb:b≠p.block) (hs:p.spot=none):(gV H (some p) off xs)[b]?=H[b]?:=by
 unfold gV;simp only
 split
 ·rfl
 ·rw[dR _ hs];exact gk hb
theorem Cy (H:Hp) (a:Option Addr) (off:Nat) (xs:Array Value):(gV H a off xs).size=H.size:=by
 unfold gV
 split
 ·rfl
 ·split
  ·rfl
  ·exact dP _ _ _
theorem af.put (h:af W A B) (hs:p.spot=none) (off:Nat) (xs:Array Value) (hp:W p.block\/A.size<=p.block):af W A (gV B (some p) off xs):=by
 refine⟨by rw[Cy];exact h.size,fun k hk hw=>?_⟩;rw[lV (by rintro rfl;rcases hp with hp|hp;exact hw hp;omega) hs];exact h.at_ k hk hw
theorem Bl.fZ (h:Bl H b l) (o off:Nat) (xs:Array Value) (h1:bQ xs) (hn:o+off+xs.size<=l.length):fZ H (some ⟨b,o,none⟩) off xs:=by
 refine⟨h1,.inr ?_⟩;rw[dR _ rfl];exact h.bK hn
def w8 (l:List UInt8):List Value:=l.map fun x=>.int .u8 x.toNat
theorem jN (l:List UInt8):(w8 l).length=l.length:=by simp[w8]
theorem NV (l:List UInt8) (i:Nat) (h:i<l.length):(w8 l)[i]?=some (.int .u8 (l.getD i 0).toNat):=by
 simp[w8,h]
theorem Jh (a:List UInt8) (n:Nat):(w8 a).take n=w8 (a.take n):=by simp[w8]
theorem qI {k:FuncId} {a:Array Value} {R:Value->Hp->Prop} (h:∀Q,Q=R->an P k a H Q):an P k a H R:=h R rfl
theorem ay
  (h:∀H' b,b=H.size->H'.size=H.size+1->Bl H' b z.toList->af (fun _=>False) H H'->ops P r (d.env (.pointer (some ⟨b,0,none⟩)) e) (d.fr (.pointer (some ⟨b,0,none⟩)) f) H' Q):
  vQ P d r e f Q (.pointer (some ⟨H.size,0,none⟩)) (H.push (.cells z T)):=
 h _ _ rfl (by simp) (Bl.cW _ _ _) ((af.refl _ _).push _)
theorem cx (v:Value) (n:Nat):(rep #[v] n).toList=List.replicate n v:=by
 unfold rep;simp[Nat.mod_one,List.map_const']
attribute [go_sem] List.forall_mem_cons List.flatMap_cons List.flatMap_nil List.size_toArray List.length_cons List.length_nil List.not_mem_nil false_imp_iff implies_true List.append_nil List.cons_append List.nil_append
theorem aF {m:Nat}
  (h:∀H' b,b=H.size->H'.size=H.size+1->Bl H' b z.toList->af (fun _=>False) H H'->ops P r (d.env (.slice (some ⟨b,0,none⟩) m c) e) (d.fr (.slice (some ⟨b,0,none⟩) m c) f) H' Q):
  vQ P d r e f Q (.slice (some ⟨H.size,0,none⟩) m c) (H.push (.cells z T)):=h _ _ rfl (by simp) (Bl.cW _ _ _) ((af.refl _ _).push _)
theorem Bl.eF (h:Bl H b l) (o n c k:Nat) (hk:o+k<=l.length):Mg.eF H (.slice (some ⟨b,o,none⟩) n c) k=some ((l.drop o).take k).toArray:=by
 show(if k=0 then some #[]else Mg.aR H ⟨b,o,none⟩ k)=_
 split
 ·rename_i h0;subst h0;simp
 ·exact h.aR hk
theorem Bl.cg (h:Bl H b l) (o n c:Nat) (hk:o+n<=l.length):Mg.cg H (.slice (some ⟨b,o,none⟩) n c)=some ((l.drop o).take n).toArray:=by
 show(if n=0 then some #[]else Mg.aR H ⟨b,o,none⟩ n)=_
 split
 ·rename_i h0;subst h0;simp
 ·exact h.aR hk
theorem aG.cg (h:aG H v l):Mg.cg H v=some l.toArray:=by
 rcases h with⟨a,c,rfl,rfl⟩|⟨b,o,c,hl,rfl,h0,C,T,z,h1,h2,h3⟩
 ·cases a<;>rfl
 ·show(if l.length=0 then some #[]else Mg.aR H ⟨b,o,none⟩ l.length)=_
  rw[if_neg (by simpa using hl)];simp only[Mg.aR,Option.isSome_none,Bool.false_eq_true,if_false,h1];rw[if_pos h2]
  congr 1
  apply Array.ext';simp only[Array.toList_extract,List.extract_eq_take_drop,Nat.add_sub_cancel_left];exact h3
theorem toBA_w8 (l:List UInt8):toBA (w8 l).toArray=⟨l.toArray⟩:=by
 have:(fun x:UInt8=>UInt8.ofNat (Value.int .u8 (x.toNat:Int)).i.toNat)=id:=by funext x;simp[Value.i]
 simp only[toBA,w8,List.map_toArray,List.map_map,Function.comp_def];rw[this];simp
theorem EU {l:List UInt8} (h:cg H v=some (w8 l).toArray):AB H v:=by
 refine⟨_,h,fun x hx=>?_⟩;simp[w8]at hx;obtain⟨y,_,rfl⟩:=hx;rfl
attribute [go_sem] true_imp_iff Bool.not_true Bool.not_false
@[go_sem] theorem UH (b:Bool):(b==true)=b:=by cases b<;>rfl
@[go_sem] theorem aaj (b:Bool):(false !=b)=b:=by cases b<;>rfl
@[go_sem] theorem aak (b:Bool):(true !=b)=!b:=by cases b<;>rfl
@[go_sem] theorem UI (b:Bool):(b==false)=!b:=by cases b<;>rfl
@[go_sem] theorem UJ (b:Bool):(b !=true)=!b:=by cases b<;>rfl
@[go_sem] theorem UK (b:Bool):(b !=false)=b:=by cases b<;>rfl
@[go_sem] theorem NW (H:Hp) (z:Array Value) (T:TypeId) (m:Nat×Nat):vP (H.push (.cells z T m)) H.size=some z.size:=by simp[vP]
theorem UL (H:Hp) (z:Array Value) (T:TypeId) (n:Nat):af (fun _=>False) H (Ix (H.push (.cells z T)) H.size n)/\(Ix (H.push (.cells z T)) H.size n).size=H.size+1∧
  ∀c,z.size<=c->aG (Ix (H.push (.cells z T)) H.size n) (.slice (some ⟨H.size,0,none⟩) z.size c) z.toList:=by
 have hs:(Ix (H.push (.cells z T)) H.size n).size=H.size+1:=by simp[Ix]
 refine⟨⟨by omega,fun k hk _=>?_⟩,hs,fun c hc=>?_⟩
 ·unfold Ix;rw[Array.getElem?_modify,if_neg (by omega)];exact du hk
 ·have hm:(Ix (H.push (.cells z T)) H.size n)[H.size]?=some (.cells z T (n,n+1)):=by
   unfold Ix;rw[Array.getElem?_modify,if_pos rfl];simp
  have:=aG.at_ (l:=z.toList) (o:=0) (c:=c) (by simpa using hc) hm (by simp) (by rw[List.drop_zero,List.take_of_length_le (Nat.le_refl _)]);simpa using this
theorem af.none (h:af W A B) (hw:∀k,k<A.size->¬W k):af (fun _=>False) A B:=
 h.mono (fun k hk hW=>hw k hk hW)
theorem af.any (h:af (fun _=>False) A B):af W A B:=h.mono (fun _ _ h=>h.elim)
theorem cM (H:Hp) (a:Addr) (xs:List Value):vy H (.pointer (some a)) xs=aA H a xs:=rfl
theorem eT (H:Hp) (a:Addr) (n:Nat):QD H (.pointer (some a)) n=bK H a n:=rfl
theorem aB (H:Hp) (a:Addr) (n:Nat):aI H (.pointer (some a)) n=aR H a n:=rfl
theorem aN (C:Array Value):(Value.agg C).cells=C:=rfl
@[go_sem] theorem VR (a:Value):(#[a]:Array Value)[0]?=some a:=rfl
@[go_sem] theorem VS (a b:Value):(#[a,b]:Array Value)[0]?=some a:=rfl
@[go_sem] theorem VT (a b:Value):(#[a,b]:Array Value)[1]?=some b:=rfl
@[go_sem] theorem VU (a b c:Value):(#[a,b,c]:Array Value)[0]?=some a:=rfl
@[go_sem] theorem VV (a b c:Value):(#[a,b,c]:Array Value)[1]?=some b:=rfl
@[go_sem] theorem VW (a b c:Value):(#[a,b,c]:Array Value)[2]?=some c:=rfl
@[go_sem] theorem VX (a b c d:Value):(#[a,b,c,d]:Array Value)[0]?=some a:=rfl
@[go_sem] theorem VY (a b c d:Value):(#[a,b,c,d]:Array Value)[1]?=some b:=rfl
@[go_sem] theorem VZ (a b c d:Value):(#[a,b,c,d]:Array Value)[2]?=some c:=rfl
@[go_sem] theorem V3 (a b c d:Value):(#[a,b,c,d]:Array Value)[3]?=some d:=rfl
@[go_sem] theorem V4 (a b c d e:Value):(#[a,b,c,d,e]:Array Value)[0]?=some a:=rfl
@[go_sem] theorem V5 (a b c d e:Value):(#[a,b,c,d,e]:Array Value)[1]?=some b:=rfl
@[go_sem] theorem V6 (a b c d e:Value):(#[a,b,c,d,e]:Array Value)[2]?=some c:=rfl
@[go_sem] theorem V7 (a b c d e:Value):(#[a,b,c,d,e]:Array Value)[3]?=some d:=rfl
@[go_sem] theorem V8 (a b c d e:Value):(#[a,b,c,d,e]:Array Value)[4]?=some e:=rfl
@[go_sem] theorem V9 (a:Value): [a][0]?=some a:=rfl
@[go_sem] theorem Wa (a b:Value): [a,b][0]?=some a:=rfl
@[go_sem] theorem Wc (a b:Value): [a,b][1]?=some b:=rfl
@[go_sem] theorem We (a b c:Value): [a,b,c][0]?=some a:=rfl
@[go_sem] theorem Wf (a b c:Value): [a,b,c][1]?=some b:=rfl
@[go_sem] theorem Wg (a b c:Value): [a,b,c][2]?=some c:=rfl
@[go_sem] theorem Wh (a b c d:Value): [a,b,c,d][0]?=some a:=rfl
@[go_sem] theorem Wi (a b c d:Value): [a,b,c,d][1]?=some b:=rfl
@[go_sem] theorem Wj (a b c d:Value): [a,b,c,d][2]?=some c:=rfl
@[go_sem] theorem Wk (a b c d:Value): [a,b,c,d][3]?=some d:=rfl
@[go_sem] theorem Wl (a b c d e:Value): [a,b,c,d,e][0]?=some a:=rfl
@[go_sem] theorem Wm (a b c d e:Value): [a,b,c,d,e][1]?=some b:=rfl
@[go_sem] theorem Wn (a b c d e:Value): [a,b,c,d,e][2]?=some c:=rfl
@[go_sem] theorem Wo (a b c d e:Value): [a,b,c,d,e][3]?=some d:=rfl
@[go_sem] theorem Wp (a b c d e:Value): [a,b,c,d,e][4]?=some e:=rfl
@[go_sem] theorem Wq (a b c d e f:Value): [a,b,c,d,e,f][0]?=some a:=rfl
@[go_sem] theorem Wr (a b c d e f:Value): [a,b,c,d,e,f][1]?=some b:=rfl
@[go_sem] theorem Wt (a b c d e f:Value): [a,b,c,d,e,f][2]?=some c:=rfl
@[go_sem] theorem Wu (a b c d e f:Value): [a,b,c,d,e,f][3]?=some d:=rfl
@[go_sem] theorem Wv (a b c d e f:Value): [a,b,c,d,e,f][4]?=some e:=rfl
@[go_sem] theorem Ww (a b c d e f:Value): [a,b,c,d,e,f][5]?=some f:=rfl
@[go_sem] theorem Wy (a b c d e f g:Value): [a,b,c,d,e,f,g][0]?=some a:=rfl
@[go_sem] theorem Wz (a b c d e f g:Value): [a,b,c,d,e,f,g][1]?=some b:=rfl
@[go_sem] theorem WA (a b c d e f g:Value): [a,b,c,d,e,f,g][2]?=some c:=rfl
@[go_sem] theorem WB (a b c d e f g:Value): [a,b,c,d,e,f,g][3]?=some d:=rfl
@[go_sem] theorem WC (a b c d e f g:Value): [a,b,c,d,e,f,g][4]?=some e:=rfl
@[go_sem] theorem WD (a b c d e f g:Value): [a,b,c,d,e,f,g][5]?=some f:=rfl
@[go_sem] theorem WE (a b c d e f g:Value): [a,b,c,d,e,f,g][6]?=some g:=rfl
end Go.Mg
namespace Go.Mg
open Go Go.RowKit
def bY (H:Hp) (v:Value) (l:List Value):Prop:=
 (v=.slice none 0 0/\l=[])\/∃b c L,v=.slice (some ⟨b,0,none⟩) l.length c/\l.length<=c/\c<=L.length/\Bl H b L/\L.take l.length=l
def az:Value->Nat->Prop
 |.slice (some p) _ _,k=>k=p.block
 |_,_=>False
variable {H:Hp} {v s x:Value} {l m:List Value} {k b n c bytes:Nat} {T:TypeId} {z:Array Value} {K:Value->Hp->Prop}
theorem bY.sl (h:bY H v l):aG H v l:=by
 rcases h with⟨rfl,rfl⟩|⟨b,c,L,rfl,h1,h2,hb,h3⟩
 ·exact aG.nil _ _ _
 ·have:=aG.bl hb 0 l.length c h1 (by omega);rw[List.drop_zero,h3]at this;exact this
theorem bY.aU (h:bY H v l) (hk:aU v k):az v k:=by
 rcases h with⟨rfl,rfl⟩|⟨b,c,L,rfl,h1,h2,hb,h3⟩
 ·exact hk.elim
 ·exact hk.1
theorem bY.bM (h:bY H v l) (hk:az v k):k<H.size:=by
 rcases h with⟨rfl,rfl⟩|⟨b,c,L,rfl,h1,h2,hb,h3⟩
 ·exact hk.elim
 ·cases hk;exact hb.lt
theorem bY.ag {W:Nat->Prop} {H':Hp} (h:bY H v l) (hk:af W H H') (hw:∀k,az v k->¬W k):bY H' v l:=by
 rcases h with h|⟨b,c,L,rfl,h1,h2,hb,h3⟩
 ·exact .inl h
 ·exact .inr ⟨b,c,L,rfl,h1,h2,hk.bl hb (hw b rfl),h3⟩
theorem bY.nil (H:Hp):bY H (.slice none 0 0) []:=.inl ⟨rfl,rfl⟩
theorem bY.new (h:Bl H b l) (hn:n=l.length) (hc:n=c):bY H (.slice (some ⟨b,0,none⟩) n c) l:=by
 subst hc;subst hn;exact .inr ⟨b,_,l,rfl,Nat.le_refl _,Nat.le_refl _,h,List.take_length⟩
theorem bY.bl {L:List Value} (h:Bl H b L) (hn:n=l.length) (h1:n<=c) (h2:c<=L.length) (h3:L.take n=l):bY H (.slice (some ⟨b,0,none⟩) n c) l:=by
 subst hn;exact .inr ⟨b,c,L,rfl,h1,h2,h,h3⟩
theorem ky (l m r:List Value):List.take (l.length+m.length) (l++m++r)=l++m:=by
 rw[<-List.length_append];exact List.take_left' rfl
theorem Ji {str:Bool} (hs:bY H s l) (hx0:mV str x) (hxl:bI x=m.length) (hx:eF H x m.length=some m.toArray)
  (hm:bQ m.toArray) (hz:z.size=1) (h1:l.length+m.length<=maxLen) (h2:(l.length+m.length)*bytes<=140737488355328)
  (hK:∀v' H',bY H' v' (l++m)->af (az s) H H'->(∀k,az v' k->az s k\/H.size<=k)->K v' H'):qN str T 1 bytes z s x H K:=by
 have hsl:=hs.sl;have hlen:=hsl.len;refine⟨⟨hsl.ax,hx0,by rw[hlen,hxl];exact h1,by rw[hlen,hxl];exact h2⟩,m.toArray,by rw[Nat.mul_one,hxl];exact hx,?_⟩;rw[hlen,hxl,Nat.mul_one];rcases hs with⟨rfl,rfl⟩|⟨b,c,L,rfl,g1,g2,hb,g3⟩
 ·refine⟨fun hle=>?_,fun _=>⟨#[],rfl,fun c hc=>?_⟩⟩
  ·have:m=[]:=by
    have:([]:List Value).length+m.length<=0:=hle;apply List.eq_nil_of_length_eq_zero;simpa using this
   subst this;exact⟨trivial,hK _ _ (bY.nil _) (af.refl _ _) (fun k h=>.inl h)⟩
  ·have hB:=Bl.cW H (#[]++m.toArray++rep z ((c -(([]:List Value).length+m.length))*z.size)) T;refine hK _ _ (bY.bl hB (by simp) (by simpa using hc) ?_ ?_) ((af.refl _ _).push _) (fun k h=>.inr (Nat.le_of_eq h.symm))
   ·simp[rep,hz]at hc⊢;omega
   ·simp
 ·refine⟨fun hle=>?_,fun hlt=>⟨_,hsl.eF (Nat.le_refl _),fun c' hc=>?_⟩⟩
  ·have hle:l.length+m.length<=c:=hle;refine⟨hb.fZ _ _ _ hm (by simp;omega),?_⟩;have hB:=hb.put 0 l.length m.toArray;refine hK _ _ (bY.bl hB (by simp) hle ?_ ?_) ((af.refl _ _).put rfl _ _ (.inl rfl)) (fun k h=>.inl h)
   ·rw[gX (by simp;omega)];exact g2
   ·unfold iE;rw[Nat.zero_add,g3];exact ky _ _ _
  ·rw[List.take_length];have hB:=Bl.cW H (l.toArray++m.toArray++rep z ((c' -(l.length+m.length))*z.size)) T;refine hK _ _ (bY.bl hB (by simp) hc ?_ ?_) ((af.refl _ _).push _) (fun k h=>.inr (Nat.le_of_eq h.symm))
   ·simp[rep,hz];omega
   ·rw[Array.toList_append,Array.toList_append];exact ky _ _ _
theorem eG (hs:bY H s l) (hx:aG H x m)
  (hm:bQ m.toArray) (hz:z.size=1) (h1:l.length+m.length<=maxLen) (h2:(l.length+m.length)*bytes<=140737488355328)
  (hK:∀v' H',bY H' v' (l++m)->af (az s) H H'->(∀k,az v' k->az s k\/H.size<=k)->K v' H'):qN false T 1 bytes z s x H K:=
 Ji hs hx.ax hx.bI (by have:=hx.eF (Nat.le_refl m.length);rwa [List.take_length]at this) hm hz h1 h2 hK
end Go.Mg
namespace Go.Mg
variable {n:Nat} {H H':Hp}
theorem af.lW {H0:Hp} (h:af (fun _=>False) H0 H) (k:af (fun k=>n<=k) H H') (hn:H0.size<=n):af (fun _=>False) H0 H':=
 h.trans' k (fun i hi e=>by omega)
theorem af.yd (h:af (fun _=>False) H H'):af (fun k=>n<=k) H H':=h.mono fun _ _ h=>h.elim
end Go.Mg
namespace Go.Mg
theorem bY.some {H:Hp} {v:Value} {l:List Value} (h:bY H v l) (hl:l≠[]):∃b c L,v=.slice (some ⟨b,0,none⟩) l.length c/\l.length<=c/\c<=L.length/\Bl H b L/\L.take l.length=l/\∀i,i<l.length->L[i]?=l[i]?:=by
 rcases h with⟨_,rfl⟩|⟨b,c,L,h1,h2,h3,h4,h5⟩
 ·exact(hl rfl).elim
 ·refine⟨b,c,L,h1,h2,h3,h4,h5,fun i hi=>?_⟩
  conv=>rhs;rw[<-h5]
  rw[List.getElem?_take,if_pos hi]
end Go.Mg
namespace Go.Mg
theorem Jj {T:TypeId} {bytes:Nat} {z:Array Value} {s x:Value} {H:Hp} {K:Value->Hp->Prop} {l m:List Value} (n:Nat) (hs:bY H s l) (hn:∀k,az s k->n<=k) (hH:n<=H.size) (hx:aG H x m)
  (hm:bQ m.toArray) (hz:z.size=1) (hb:bytes<=64) (h1:l.length+m.length<=1000000000)
  (hK:∀v' H',bY H' v' (l++m)->(∀k,az v' k->n<=k)->af (fun k=>n<=k) H H'->K v' H'):qN false T 1 bytes z s x H K:=
 eG hs hx hm hz (by unfold maxLen;omega) (Nat.le_trans (Nat.mul_le_mul h1 hb) (by omega)) fun v' H' h1 h2 h3=>hK v' H' h1 (fun k hk=>by rcases h3 k hk with h|h;exact hn k h;omega) (h2.mono fun k _ hk=>hn k hk)
end Go.Mg
namespace Go.Mg
variable {H:Hp} {l:List Value}
theorem aG.cells {v:Value} (h:aG H v l) (hl:l≠[]):∃b o c,v=.slice (Option.some ⟨b,o,none⟩) l.length c/\l.length<=c/\∀i,i<l.length->Mg.cell H ⟨b,o+i,none⟩=l[i]?:=by
 rcases h with⟨_,_,_,rfl⟩|⟨b,o,c,_,h1,h2,C,T,z,h3,h4,h5⟩
 ·exact(hl rfl).elim
 ·refine⟨b,o,c,h1,h2,fun i hi=>?_⟩
  conv=>rhs;rw[<-h5]
  rw[List.getElem?_take,if_pos hi,List.getElem?_drop];simp[Mg.cell,h3]
theorem aG.AU {b o n c:Nat} (h:aG H (.slice (Option.some ⟨b,o,none⟩) n c) l) {i:Nat} (hi:i<l.length):Mg.cell H ⟨b,o+i,none⟩=l[i]?:=by
 obtain⟨b',o',c',e,-,hc⟩:=h.cells (by intro e;rw[e]at hi;simp at hi)
 cases e
 exact hc i hi
end Go.Mg
namespace Go.Mg
theorem EV {H:Hp} {b c:Nat} {L l:List Value} (hB:Bl H b L) (h1:l.length<=c) (h2:c<=L.length) (h3:L.take l.length=l) (i:Nat) (v:Value) (_:i<l.length):
  bY (al H ⟨b,i,none⟩ v) (.slice (some ⟨b,0,none⟩) l.length c) (l.set i v):=
 bY.bl (hB.al i v) (by simp) h1 (by simpa using h2) (by rw[List.take_set,h3])
end Go.Mg
namespace Go.Mg
theorem bY.shape {H:Hp} {v:Value} {l:List Value} (h:bY H v l):∃a n c,v=.slice a n c:=by
 rcases h with⟨rfl,_⟩|⟨b,c,L,rfl,_⟩<;>exact⟨_,_,_,rfl⟩
end Go.Mg
namespace Go.Mg
def iL (l:List Int):List Value:=l.map (Value.int .i64)
theorem ak (l:List Int):(iL l).length=l.length:=by simp[iL]
theorem bW (l:List Int) (i:Nat) (h:i<l.length):(iL l)[i]?=some (.int .i64 (l.getD i 0)):=by simp[iL,h]
theorem NX (a b:List Int):iL (a++b)=iL a++iL b:=by simp[iL]
theorem fU (l:List Int) (i:Nat) (x:Int):(iL l).set i (.int .i64 x)=iL (l.set i x):=by simp[iL,List.map_set]
theorem ji (l:List Int):bQ (iL l).toArray:=by
 intro x hx;simp[iL]at hx;obtain⟨y,_,rfl⟩:=hx;rfl
theorem oF (n:Nat) (x:Int):List.replicate n (Value.int .i64 x)=iL (List.replicate n x):=by simp[iL]
def bL (l:List Bool):List Value:=l.map Value.bool
theorem ft (l:List Bool):(bL l).length=l.length:=by simp[bL]
theorem sE (l:List Bool) (i:Nat) (h:i<l.length):(bL l)[i]?=some (.bool (l.getD i false)):=by simp[bL,h]
theorem sF (l:List Bool) (i:Nat) (x:Bool):(bL l).set i (.bool x)=bL (l.set i x):=by simp[bL,List.map_set]
theorem EW (n:Nat) (x:Bool):List.replicate n (Value.bool x)=bL (List.replicate n x):=by simp[bL]
end Go.Mg
namespace Go.Mg
open Go Go.RowKit
section
variable {α:Type} {enc:α->List Value} {k:Nat}
theorem sG (hk:∀x,(enc x).length=k) (l:List α):(l.flatMap enc).length=l.length*k:=by
 induction l with
 |nil=>simp
 |cons a l ih=>simp[ih,hk,Nat.succ_mul,Nat.add_comm]
theorem AV (hk:∀x,(enc x).length=k) (l:List α) (i:Nat) (x:α) (h:l[i]?=some x):((l.flatMap enc).drop (i*k)).take k=enc x:=by
 induction l generalizing i with
 |nil=>simp at h
 |cons a l ih=>
  cases i with
  |zero=>
   simp at h;subst h;rw[Nat.zero_mul,List.drop_zero,List.flatMap_cons];exact List.take_left' (hk _)
  |succ i=>
   simp at h;rw[List.flatMap_cons,Nat.succ_mul,Nat.add_comm,<-List.drop_drop,List.drop_left' (hk _)];exact ih i h
theorem sH (hk:∀x,(enc x).length=k) (l:List α) (i:Nat) (h:i<=l.length):(l.flatMap enc).take (i*k)=(l.take i).flatMap enc:=by
 induction l generalizing i with
 |nil=>simp
 |cons a l ih=>
  cases i with
  |zero=>simp
  |succ i=>
   rw[List.flatMap_cons,List.take_succ_cons,List.flatMap_cons,Nat.succ_mul,Nat.add_comm,List.take_append,hk,List.take_of_length_le (by rw[hk];omega),Nat.add_sub_cancel_left,ih i (by simpa using h)]
theorem Jk (hk:∀x,(enc x).length=k) (l:List α) (i:Nat) (h:i<=l.length):(l.flatMap enc).drop (i*k)=(l.drop i).flatMap enc:=by
 induction l generalizing i with
 |nil=>simp
 |cons a l ih=>
  cases i with
  |zero=>simp
  |succ i=>
   rw[List.flatMap_cons,List.drop_succ_cons,Nat.succ_mul,Nat.add_comm,<-List.drop_drop,List.drop_left' (hk _),ih i (by simpa using h)]
theorem Jl (h1:∀x,∀v∈enc x,v.oneCell'=true) (l:List α):bQ (l.flatMap enc).toArray:=by
 intro x hx;simp only[List.mem_flatMap]at hx;obtain⟨a,_,hx⟩:=hx;exact h1 a x hx
def bo (enc:α->List Value) (k:Nat) (H:Hp) (v:Value) (l:List α):Prop:=
 (∃a c,v=.slice a 0 c/\l=[])\/∃b o c,l≠[]/\v=.slice (some ⟨b,o,none⟩) l.length c/\l.length<=c/\∃C T z,H[b]?=some (.cells C T z)/\o+l.length*k<=C.size/\(C.toList.drop o).take (l.length*k)=l.flatMap enc
theorem bo.nil (H:Hp) (a:Option Addr) (c:Nat):bo enc k H (.slice a 0 c) []:=.inl ⟨a,c,rfl,rfl⟩
theorem bo.at_ {H:Hp} {b o c:Nat} {l:List α} {C:Array Value} {T:TypeId} {z:Nat×Nat} (hc:l.length<=c) (h:H[b]?=some (.cells C T z)) (h1:o+l.length*k<=C.size) (h2:(C.toList.drop o).take (l.length*k)=l.flatMap enc):
  bo enc k H (.slice (some ⟨b,o,none⟩) l.length c) l:=by
 by_cases hl:l=[]
 ·subst hl;exact bo.nil _ _ _
 ·exact .inr ⟨b,o,c,hl,rfl,hc,C,T,z,h,h1,h2⟩
theorem bo.congr {H H':Hp} {v:Value} {l:List α} (h:bo enc k H v l) (hk:∀q,aU v q->H'[q]?=H[q]?):bo enc k H' v l:=by
 rcases h with h|⟨b,o,c,hl,rfl,h0,C,T,z,h1,h2,h3⟩
 ·exact .inl h
 ·exact .inr ⟨b,o,c,hl,rfl,h0,C,T,z,by rw[hk b ⟨rfl,by simpa using hl⟩];exact h1,h2,h3⟩
theorem bo.bM {H:Hp} {v:Value} {l:List α} (h:bo enc k H v l) {q:Nat} (hq:aU v q):q<H.size:=by
 rcases h with⟨a,c,rfl,_⟩|⟨b,o,c,_,rfl,h0,C,T,z,h1,h2,h3⟩
 ·cases a<;>simp[aU]at hq
 ·obtain⟨rfl,_⟩:=hq;exact(Array.getElem?_eq_some_iff.1 h1).1
theorem bo.ag {W:Nat->Prop} {H H':Hp} {v:Value} {l:List α} (h:bo enc k H v l) (hk:af W H H') (hw:∀q,aU v q->¬W q):bo enc k H' v l:=
 h.congr fun q hb=>hk.at_ q (h.bM hb) (hw q hb)
theorem bo.aj {H H':Hp} {v:Value} {l:List α} (h:bo enc k H v l) (hk:af (fun _=>False) H H'):bo enc k H' v l:=h.ag hk fun _ _ h=>h
theorem bo.ax {H:Hp} {v:Value} {l:List α} (h:bo enc k H v l):Mg.ax v:=by
 rcases h with⟨a,c,rfl,_⟩|⟨b,o,c,_,rfl,_⟩<;>trivial
theorem bo.len {H:Hp} {v:Value} {l:List α} (h:bo enc k H v l):aP v=l.length:=by
 rcases h with⟨a,c,rfl,rfl⟩|⟨b,o,c,_,rfl,_⟩<;>rfl
theorem bo.bI {H:Hp} {v:Value} {l:List α} (h:bo enc k H v l):Mg.bI v=l.length:=by
 rcases h with⟨a,c,rfl,rfl⟩|⟨b,o,c,_,rfl,_⟩<;>rfl
theorem bo.mk {H:Hp} {v:Value} {l:List α} (h:bo enc k H v l):∃a c,v=.slice a l.length c/\l.length<=c:=by
 rcases h with⟨a,c,rfl,rfl⟩|⟨b,o,c,_,rfl,h0,_⟩
 ·exact⟨a,c,rfl,Nat.zero_le _⟩
 ·exact⟨_,c,rfl,h0⟩
theorem bo.eF {H:Hp} {v:Value} {l:List α} (h:bo enc k H v l):Mg.eF H v (l.length*k)=some (l.flatMap enc).toArray:=by
 rcases h with⟨a,c,rfl,rfl⟩|⟨b,o,c,_,rfl,h0,C,T,z,h1,h2,h3⟩
 ·rw[List.length_nil,Nat.zero_mul,yc];rfl
 ·show(if l.length*k=0 then some #[]else Mg.aR H ⟨b,o,none⟩ (l.length*k))=_
  split
  ·rename_i QQ;rw[<-h3,QQ];simp
  ·simp only[Mg.aR,Option.isSome_none,Bool.false_eq_true,if_false,h1];rw[if_pos (by omega)]
   congr 1
   apply Array.ext';simp only[Array.toList_extract,List.extract_eq_take_drop,Nat.add_sub_cancel_left];exact h3
theorem bo.bl {H:Hp} {b:Nat} {L:List Value} (h:Bl H b L) {l:List α} (hl:L.take (l.length*k)=l.flatMap enc) (hL:l.length*k<=L.length) {c:Nat} (hc:l.length<=c):bo enc k H (.slice (some ⟨b,0,none⟩) l.length c) l:=by
 obtain⟨T,h⟩:=h;exact bo.at_ hc h (by simpa using hL) (by simpa using hl)
theorem bo.elem {H:Hp} {v:Value} {l:List α} (h:bo enc k H v l) (hk:∀x,(enc x).length=k) {i:Nat} (hi:i<l.length):∃b o c,v=.slice (some ⟨b,o,none⟩) l.length c/\aU v b/\Mg.aR H ⟨b,o+i*k,none⟩ k=some (enc l[i]).toArray:=by
 rcases h with⟨a,c,_,rfl⟩|⟨b,o,c,hl,rfl,h0,C,T,z,h1,h2,h3⟩
 ·simp at hi
 ·refine⟨b,o,c,rfl,⟨rfl,by simpa using hl⟩,?_⟩;have hle:i*k+k<=l.length*k:=by rw[<-Nat.succ_mul];exact Nat.mul_le_mul_right k hi
  unfold Mg.aR;simp only[h1,Option.isSome_none,Bool.false_eq_true,if_false];rw[if_pos (by omega)]
  congr 1
  apply Array.ext';simp only[Array.toList_extract,List.extract_eq_take_drop,Nat.add_sub_cancel_left];rw[<-AV hk l i l[i] (List.getElem?_eq_getElem hi),<-h3,List.drop_take,List.take_take,List.drop_drop,Nat.min_eq_left (by omega)]
theorem bo.cell {H:Hp} {v:Value} {l:List α} (h:bo enc k H v l) (hk:∀x,(enc x).length=k) {i:Nat} (hi:i<l.length) {j:Nat} (hj:j<k):∃b o c,v=.slice (some ⟨b,o,none⟩) l.length c/\aU v b/\Mg.cell H ⟨b,o+i*k+j,none⟩=(enc l[i])[j]?:=by
 rcases h with⟨a,c,_,rfl⟩|⟨b,o,c,hl,rfl,h0,C,T,z,h1,h2,h3⟩
 ·simp at hi
 ·refine⟨b,o,c,rfl,⟨rfl,by simpa using hl⟩,?_⟩;have hle:i*k+k<=l.length*k:=by rw[<-Nat.succ_mul];exact Nat.mul_le_mul_right k hi
  rw[<-AV hk l i l[i] (List.getElem?_eq_getElem hi),<-h3,List.drop_take,List.take_take,List.drop_drop,Nat.min_eq_left (by omega),List.getElem?_take,if_pos hj,List.getElem?_drop];simp[Mg.cell,h1]
def dG (enc:α->List Value) (k:Nat) (H:Hp) (v:Value) (l:List α):Prop:=
 (v=.slice none 0 0/\l=[])\/∃b c L,v=.slice (some ⟨b,0,none⟩) l.length c/\l.length<=c/\c*k<=L.length/\Bl H b L/\L.take (l.length*k)=l.flatMap enc
theorem dG.sl {H:Hp} {v:Value} {l:List α} (h:dG enc k H v l):bo enc k H v l:=by
 rcases h with⟨rfl,rfl⟩|⟨b,c,L,rfl,h1,h2,hb,h3⟩
 ·exact bo.nil _ _ _
 ·exact bo.bl hb h3 (Nat.le_trans (Nat.mul_le_mul_right k h1) h2) h1
theorem dG.aU {H:Hp} {v:Value} {l:List α} (h:dG enc k H v l) {q:Nat} (hq:aU v q):az v q:=by
 rcases h with⟨rfl,rfl⟩|⟨b,c,L,rfl,h1,h2,hb,h3⟩
 ·exact hq.elim
 ·exact hq.1
theorem dG.bM {H:Hp} {v:Value} {l:List α} (h:dG enc k H v l) {q:Nat} (hq:az v q):q<H.size:=by
 rcases h with⟨rfl,rfl⟩|⟨b,c,L,rfl,h1,h2,hb,h3⟩
 ·exact hq.elim
 ·cases hq;exact hb.lt
theorem dG.ag {W:Nat->Prop} {H H':Hp} {v:Value} {l:List α} (h:dG enc k H v l) (hk:af W H H') (hw:∀q,az v q->¬W q):dG enc k H' v l:=by
 rcases h with h|⟨b,c,L,rfl,h1,h2,hb,h3⟩
 ·exact .inl h
 ·exact .inr ⟨b,c,L,rfl,h1,h2,hk.bl hb (hw b rfl),h3⟩
theorem dG.nil (H:Hp):dG enc k H (.slice none 0 0) []:=.inl ⟨rfl,rfl⟩
theorem dG.bl {H:Hp} {b n c:Nat} {l:List α} {L:List Value} (h:Bl H b L) (hn:n=l.length) (h1:n<=c) (h2:c*k<=L.length) (h3:L.take (n*k)=l.flatMap enc):dG enc k H (.slice (some ⟨b,0,none⟩) n c) l:=by
 subst hn;exact .inr ⟨b,c,L,rfl,h1,h2,h,h3⟩
theorem dG.shape {H:Hp} {v:Value} {l:List α} (h:dG enc k H v l):∃a n c,v=.slice a n c:=by
 rcases h with⟨rfl,_⟩|⟨b,c,L,rfl,_⟩<;>exact⟨_,_,_,rfl⟩
theorem dG.some {H:Hp} {v:Value} {l:List α} (h:dG enc k H v l) (hl:l≠[]):∃b c L,v=.slice (some ⟨b,0,none⟩) l.length c/\l.length<=c/\c*k<=L.length/\Bl H b L/\L.take (l.length*k)=l.flatMap enc:=by
 rcases h with⟨_,rfl⟩|h
 ·exact(hl rfl).elim
 ·exact h
theorem NY {T:TypeId} {bytes:Nat} {z:Array Value} {s x:Value} {H:Hp} {K:Value->Hp->Prop} {l m:List α} (hk:∀x,(enc x).length=k) (h1c:∀x,∀v∈enc x,v.oneCell'=true) (hs:dG enc k H s l) (hx:bo enc k H x m)
  (hz:z.size=k) (h1:l.length+m.length<=maxLen) (h2:(l.length+m.length)*bytes<=140737488355328)
  (hK:∀v' H',dG enc k H' v' (l++m)->af (az s) H H'->(∀q,az v' q->az s q\/H.size<=q)->bo enc k H' s l->K v' H'):qN false T k bytes z s x H K:=by
 have hsl:=hs.sl;have hlen:=hsl.len;have hxl:=hx.bI;have fm:=sG hk m;have fl:=sG hk l;have RY:(l.flatMap enc++m.flatMap enc).length=(l.length+m.length)*k:=by rw[List.length_append,fm,fl,Nat.add_mul]
 refine⟨⟨hsl.ax,hx.ax,by rw[hlen,hxl];exact h1,by rw[hlen,hxl];exact h2⟩,(m.flatMap enc).toArray,by rw[hxl];exact hx.eF,?_⟩;rw[hlen,hxl];rcases hs with⟨rfl,rfl⟩|⟨b,c,L,rfl,g1,g2,hb,g3⟩
 ·refine⟨fun hle=>?_,fun _=>⟨#[],by rw[List.length_nil,Nat.zero_mul,yc],fun c hc=>?_⟩⟩
  ·have:m=[]:=by
    have:([]:List α).length+m.length<=0:=hle;apply List.eq_nil_of_length_eq_zero;simpa using this
   subst this;exact⟨trivial,hK _ _ (dG.nil _) (af.refl _ _) (fun k h=>.inl h) (bo.nil _ _ _)⟩
  ·have hB:=Bl.cW H (#[]++(m.flatMap enc).toArray++rep z ((c -(([]:List α).length+m.length))*z.size)) T;refine hK _ _ (dG.bl hB (by simp) (by simpa using hc) ?_ ?_) ((af.refl _ _).push _) (fun k h=>.inr (Nat.le_of_eq h.symm)) (bo.nil _ _ _)
   ·simp only[List.length_nil,Nat.zero_add]at hc⊢;simp only[rep,hz,Array.toList_append,List.length_append,fm,List.length_map,Array.toList_map,Array.length_toList,Array.size_range,List.length_nil,Nat.zero_add];rw[<-Nat.add_mul,Nat.add_sub_of_le hc];exact Nat.le_refl _
   ·simp only[List.length_nil,Nat.zero_add,List.nil_append,Array.toList_append];exact List.take_left' (by simpa using fm)
 ·refine⟨fun hle=>?_,fun hlt=>⟨_,hsl.eF,fun c' hc=>?_⟩⟩
  ·have hle:l.length+m.length<=c:=hle;have WG:(l.length+m.length)*k<=c*k:=Nat.mul_le_mul_right k hle;rw[Nat.add_mul]at WG;refine⟨hb.fZ _ _ _ (Jl h1c m) (by simp only[List.size_toArray,fm,Nat.zero_add];omega),?_⟩;have hB:=hb.put 0 (l.length*k) (m.flatMap enc).toArray;refine hK _ _ (dG.bl hB (by simp) hle ?_ ?_) ((af.refl _ _).put rfl _ _ (.inl rfl)) (fun k h=>.inl h) (bo.bl hB ?_ ?_ g1)
   ·rw[gX (by simp only[Nat.zero_add,fm];omega)];exact g2
   ·unfold iE;rw[Nat.zero_add,g3,List.flatMap_append];exact List.take_left' RY
   ·unfold iE;rw[Nat.zero_add,g3,List.append_assoc];exact List.take_left' fl
   ·rw[gX (by simp only[Nat.zero_add,fm];omega)];exact Nat.le_trans (Nat.mul_le_mul_right k g1) g2
  ·have hB:=Bl.cW H ((l.flatMap enc).toArray++(m.flatMap enc).toArray++rep z ((c' -(l.length+m.length))*z.size)) T;refine hK _ _ (dG.bl hB (by simp) hc ?_ ?_) ((af.refl _ _).push _) (fun k h=>.inr (Nat.le_of_eq h.symm)) (hsl.aj ((af.refl _ _).push _))
   ·simp only[rep,hz,Array.toList_append,List.length_append,fm,fl,List.length_map,Array.toList_map,Array.length_toList,Array.size_range];rw[<-Nat.add_mul,<-Nat.add_mul,Nat.add_sub_of_le hc];exact Nat.le_refl _
   ·rw[Array.toList_append,Array.toList_append,List.flatMap_append];exact List.take_left' RY
theorem EY {T:TypeId} {bytes:Nat} {z:Array Value} {s x:Value} {H:Hp} {K:Value->Hp->Prop} {l m:List α} (hk:∀x,(enc x).length=k) (h1c:∀x,∀v∈enc x,v.oneCell'=true) (hs:dG enc k H s l) (hx:bo enc k H x m)
  (hz:z.size=k) (h1:l.length+m.length<=maxLen) (h2:(l.length+m.length)*bytes<=140737488355328)
  (hK:∀v' H',dG enc k H' v' (l++m)->af (az s) H H'->(∀q,az v' q->az s q\/H.size<=q)->K v' H'):qN false T k bytes z s x H K:=
 NY hk h1c hs hx hz h1 h2 fun v' H' a b c _=>hK v' H' a b c
theorem sJ {T:TypeId} {bytes:Nat} {z:Array Value} {s x:Value} {H:Hp} {K:Value->Hp->Prop} {l m:List α} (n:Nat) (hk:∀x,(enc x).length=k) (h1c:∀x,∀v∈enc x,v.oneCell'=true) (hs:dG enc k H s l) (hn:∀q,az s q->n<=q) (hH:n<=H.size) (hx:bo enc k H x m)
  (hz:z.size=k) (hb:bytes<=64) (h1:l.length+m.length<=1000000000)
  (hK:∀v' H',dG enc k H' v' (l++m)->(∀q,az v' q->n<=q)->af (fun q=>n<=q) H H'->K v' H'):qN false T k bytes z s x H K:=
 EY hk h1c hs hx hz (by unfold maxLen;omega) (Nat.le_trans (Nat.mul_le_mul h1 hb) (by omega)) fun v' H' h1 h2 h3=>hK v' H' h1 (fun q hq=>by rcases h3 q hq with h|h;exact hn q h;omega) (h2.mono fun q _ hq=>hn q hq)
end
def pE (p:Int×Int):List Value:=[.int .i64 p.1,.int .i64 p.2]
theorem oG (p:Int×Int):(pE p).length=2:=rfl
theorem oH (p:Int×Int):∀v∈pE p,v.oneCell'=true:=by
 intro v hv;simp[pE]at hv;rcases hv with rfl|rfl<;>rfl
abbrev sN:=bo pE 2
abbrev QR:=dG pE 2
end Go.Mg
