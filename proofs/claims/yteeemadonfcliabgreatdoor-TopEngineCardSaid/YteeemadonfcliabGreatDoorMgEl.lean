/- Lemmas of ours. No conditions. -/
import Derived.Test.YteeemadonfcliabGreatDoorMgTvk
set_option linter.all false
namespace Go.Mg
open Go Go.RowKit
@[go_sem] theorem FD (a:Option Addr) (l c size:Nat) (lo hi:Option Int):Ax (.slice a l c) size lo hi=.slice (if c=mg lo then a else a.map (·.add (mg lo*size))) (Aw l hi -mg lo) (c -mg lo):=rfl
@[go_sem] theorem V3 (a:Addr) (n size:Nat) (lo hi:Option Int):RU (.pointer (some a)) n size lo hi=.slice (some (if n=mg lo then a else a.add (mg lo*size))) (Aw n hi -mg lo) (n -mg lo):=rfl
@[go_sem] theorem YH (r:A->Value) (x:A):oi r (some x)=some (r x).i:=rfl
@[go_sem] theorem YI (r:A->Value):oi r none=none:=rfl
@[go_sem] theorem Sr (a:Option Addr) (n c size l h m:Nat):RW (.slice a n c) size l h m=.slice (if m=l then a else a.map (·.add (l*size))) (h -l) (m -l):=rfl
attribute [go_sem] Option.map_some Option.map_none Option.getD_none Int.toNat_zero Nat.sub_zero Nat.add_zero
@[go_sem] theorem jC (n:Nat):((no_index (OfNat.ofNat n):Int)).toNat=OfNat.ofNat n:=by
 show((n:Nat):Int).toNat=n
 simp
def nJ (l:List Value) (off:Nat) (xs:List Value):List Value:=l.take off++xs++l.drop (off+xs.length)
theorem M9 (l:List Value) (off:Nat):nJ l off []=l:=by simp[nJ]
variable {l xs:List Value} {off b o n c k:Nat} {H A B H':Hp} {p:Addr} {W:Nat->Prop} {T:TypeId} {v:Value} {z:Array Value} {P:Program} {d:D} {r:List O} {e:Env} {f:Fr} {Q:Fr->Hp->Prop}
theorem j9 (h:off+xs.length<=l.length):(nJ l off xs).length=l.length:=by
 simp[nJ];omega
theorem vm (l xs:List Value) (h:xs.length=l.length):nJ l 0 xs=xs:=by simp[nJ,h]
theorem ij (hb:b≠p.block):(az H p xs)[b]?=H[b]?:=by
 unfold az;rw[Array.getElem?_modify,if_neg (fun e=>hb e.symm)]
theorem eG (H:Hp) (p:Addr) (xs:List Value):(az H p xs).size=H.size:=by simp[az]
theorem Bl.az (h:Bl H b l) (o:Nat) (xs:List Value):Bl (Mg.az H ⟨b,o,none⟩ xs) b (nJ l o xs):=by
 obtain⟨T,h⟩:=h;refine⟨T,?_⟩;rw[qA (p:=⟨b,o,none⟩) h,cR h];simp[jh,nJ]
theorem af.az (h:af W A B) (xs:List Value) (hp:W p.block\/A.size<=p.block):af W A (Mg.az B p xs):=by
 refine⟨by rw[eG];exact h.size,fun k hk hw=>?_⟩;rw[ij (by rintro rfl;rcases hp with hp|hp;exact hw hp;omega)];exact h.at_ k hk hw
theorem Bl.bK (h:Bl H b l) (hn:o+n<=l.length):Mg.bK H ⟨b,o,none⟩ n:=by
 have h':=h;obtain⟨T,h⟩:=h;exact⟨rfl,_,_,_,h,by simpa using hn,fun i _=>h'.tN _⟩
theorem Bl.aR (h:Bl H b l) (hn:o+n<=l.length):Mg.aR H ⟨b,o,none⟩ n=some ((l.drop o).take n).toArray:=by
 obtain⟨T,h⟩:=h;unfold Mg.aR;simp only[h,Option.isSome_none,Bool.false_eq_true,if_false,List.size_toArray,hn,if_true];simp[List.extract_eq_take_drop]
theorem Bl.aD (h:Bl H b l) (n:Nat) (hn:n=l.length):Mg.aD H (.pointer (some ⟨b,0,none⟩)) n=some l.toArray:=by
 subst hn;have:=h.aR (o:=0) (n:=l.length) (by omega);simpa[Mg.aD]using this
def aM (H:Hp) (v:Value) (l:List Value):Prop:=
 (∃a c,v=.slice a 0 c/\l=[])\/∃b o c,l≠[]/\v=.slice (some ⟨b,o,none⟩) l.length c/\l.length<=c/\∃C T z,H[b]?=some (.cells C T z)/\o+l.length<=C.size/\(C.toList.drop o).take l.length=l
def aV:Value->Nat->Prop
 |.slice (some p) n _,k=>k=p.block/\n≠0
 |_,_=>False
theorem aM.nil (H:Hp) (a:Option Addr) (c:Nat):aM H (.slice a 0 c) []:=.inl ⟨a,c,rfl,rfl⟩
theorem aM.at_ {C:Array Value} {z:Nat×Nat} (hc:l.length<=c) (h:H[b]?=some (.cells C T z)) (h1:o+l.length<=C.size) (h2:(C.toList.drop o).take l.length=l):
  aM H (.slice (some ⟨b,o,none⟩) l.length c) l:=by
 by_cases hl:l=[]
 ·subst hl;exact aM.nil _ _ _
 ·exact .inr ⟨b,o,c,hl,rfl,hc,C,T,z,h,h1,h2⟩
theorem aM.congr (h:aM H v l) (hk:∀k,aV v k->H'[k]?=H[k]?):aM H' v l:=by
 rcases h with h|⟨b,o,c,hl,rfl,h0,C,T,z,h1,h2,h3⟩
 ·exact .inl h
 ·exact .inr ⟨b,o,c,hl,rfl,h0,C,T,z,by rw[hk b ⟨rfl,by simpa using hl⟩];exact h1,h2,h3⟩
theorem aM.bE (h:aM H v l) (hk:aV v k):k<H.size:=by
 rcases h with⟨a,c,rfl,_⟩|⟨b,o,c,_,rfl,h0,C,T,z,h1,h2,h3⟩
 ·cases a<;>simp[aV]at hk
 ·obtain⟨rfl,_⟩:=hk;exact(Array.getElem?_eq_some_iff.1 h1).1
theorem aM.ag (h:aM H v l) (hk:af W H H') (hw:∀k,aV v k->¬W k):aM H' v l:=
 h.congr fun k hb=>hk.at_ k (h.bE hb) (hw k hb)
theorem aM.aq (h:aM H v l):Mg.aq v:=by
 rcases h with⟨a,c,rfl,_⟩|⟨b,o,c,_,rfl,_⟩<;>trivial
theorem aM.len (h:aM H v l):aO v=l.length:=by
 rcases h with⟨a,c,rfl,rfl⟩|⟨b,o,c,_,rfl,_⟩<;>rfl
theorem aM.bX (h:aM H v l):Mg.bX v=l.length:=by
 rcases h with⟨a,c,rfl,rfl⟩|⟨b,o,c,_,rfl,_⟩<;>rfl
theorem AO (H:Hp) (a:Option Addr) (n c:Nat):Mg.gB H (.slice a n c) 0=some #[]:=by
 cases a<;>simp[Mg.gB]
theorem aM.gB (h:aM H v l) (hk:k<=l.length):Mg.gB H v k=some (l.take k).toArray:=by
 rcases h with⟨a,c,rfl,rfl⟩|⟨b,o,c,_,rfl,h0,C,T,z,h1,h2,h3⟩
 ·have:k=0:=by simpa using hk
  subst this;rw[AO];simp
 ·show(if k=0 then some #[]else Mg.aR H ⟨b,o,none⟩ k)=_
  split
  ·rename_i hk0;subst hk0;simp
  ·simp only[Mg.aR,Option.isSome_none,Bool.false_eq_true,if_false,h1];rw[if_pos (by omega)]
   congr 1
   apply Array.ext';simp only[Array.toList_extract,List.extract_eq_take_drop,Nat.add_sub_cancel_left];rw[<-h3,List.take_take,Nat.min_eq_left hk]
theorem aM.bl (h:Bl H b l) (o n c:Nat) (hc:n<=c) (hn:o+n<=l.length):aM H (.slice (some ⟨b,o,none⟩) n c) ((l.drop o).take n):=by
 obtain⟨T,h⟩:=h;have e:((l.drop o).take n).length=n:=by simp;omega
 have:=aM.at_ (l:=(l.drop o).take n) (o:=o) (c:=c) (by rw[e];exact hc) h (by rw[e];simpa using hn) (by rw[e])
 rwa [e]at this
theorem aM.drop (h:aM H v l) (hn:n<=l.length):aM H (Ax v 1 (some (n:Int)) none) (l.drop n):=by
 rcases h with⟨a,c,rfl,rfl⟩|⟨b,o,c,hne,rfl,h0,C,T,z,h1,h2,h3⟩
 ·have:n=0:=by simpa using hn
  subst this;exact .inl ⟨_,c -0,rfl,by simp⟩
 ·have hl:(l.drop n).length=l.length -n:=by simp
  by_cases hc:c=n
  ·have:=aM.at_ (l:=l.drop n) (o:=o) (c:=c -n) (by omega) h1 (by omega) (by
    rw[hl]
    conv=>rhs;rw[<-h3]
    rw[List.drop_take];have:l.length -n=0:=by omega
    simp[this])
   rw[hl]at this;simp[Ax,mg,Aw,hc]at this⊢;exact this
  ·have:=aM.at_ (l:=l.drop n) (o:=o+n) (c:=c -n) (by omega) h1 (by omega) (by
    rw[hl]
    conv=>rhs;rw[<-h3]
    rw[List.drop_take,List.drop_drop])
   rw[hl]at this;simp[Ax,mg,Aw,hc,eJ]at this⊢;exact this
theorem aM.mk (h:aM H v l):∃a c,v=.slice a l.length c/\l.length<=c:=by
 rcases h with⟨a,c,rfl,rfl⟩|⟨b,o,c,_,rfl,h0,_⟩
 ·exact⟨a,c,rfl,Nat.zero_le _⟩
 ·exact⟨_,c,rfl,h0⟩
theorem HO {z:Nat} (hn:n<=aO v) (h:aV (Ax v z none (some (n:Int))) k):aV v k:=by
 cases v with
 |slice a m c=>
  cases a with
  |none=>simp[Ax,aV]at h
  |some p=>
   simp only[aO]at hn;simp only[Ax]at h
   split at h
   ·exact⟨h.1,by have:=h.2;simp only[Aw,Int.toNat_natCast]at this;omega⟩
   ·simp only[Option.map_some,aV,Addr.add]at h;have:(p.add (mg none*z)).block=p.block:=by unfold Addr.add;split<;>rfl
    exact⟨h.1.trans this,by have:=h.2;simp only[Aw,Int.toNat_natCast]at this;omega⟩
 |_=>exact h
theorem aM.take (h:aM H v l) (hn:n<=l.length):aM H (Ax v 1 none (some (n:Int))) (l.take n):=by
 rcases h with⟨a,c,rfl,rfl⟩|⟨b,o,c,hne,rfl,h0,C,T,z,h1,h2,h3⟩
 ·have:n=0:=by simpa using hn
  subst this;exact .inl ⟨_,c -0,rfl,by simp⟩
 ·have hl:(l.take n).length=n:=by simp;omega
  have:=aM.at_ (l:=l.take n) (o:=o) (c:=c) (by omega) h1 (by omega) (by
   rw[hl]
   conv=>rhs;rw[<-h3]
   rw[List.take_take,Nat.min_eq_left hn])
  rw[hl]at this;simp[Ax,mg,Aw,eJ]at this⊢;exact this
theorem aM.cap (h:aM H v l):l.length<=fP v:=by
 rcases h with⟨a,c,rfl,rfl⟩|⟨b,o,c,_,rfl,h0,_⟩
 ·exact Nat.zero_le _
 ·exact h0
theorem Bl.put (h:Bl H b l) (o off:Nat) (xs:Array Value):Bl (iR H (some ⟨b,o,none⟩) off xs) b (nJ l (o+off) xs.toList):=by
 unfold iR;simp only
 split
 ·rename_i h0;have:xs.toList=[]:=by apply List.eq_nil_of_length_eq_zero;simpa using h0
  rw[this,M9];exact h
 ·rw[eJ _ rfl];exact h.az _ _
theorem nP {xs:Array Value} (hb:b≠p.block) (hs:p.spot=none):(iR H (some p) off xs)[b]?=H[b]?:=by
 unfold iR;simp only
 split
 ·rfl
 ·rw[eJ _ hs];exact ij hb
theorem FE (H:Hp) (a:Option Addr) (off:Nat) (xs:Array Value):(iR H a off xs).size=H.size:=by
 unfold iR
 split
 ·rfl
 ·split
  ·rfl
  ·exact eG _ _ _
theorem af.put (h:af W A B) (hs:p.spot=none) (off:Nat) (xs:Array Value) (hp:W p.block\/A.size<=p.block):af W A (iR B (some p) off xs):=by
 refine⟨by rw[FE];exact h.size,fun k hk hw=>?_⟩;rw[nP (by rintro rfl;rcases hp with hp|hp;exact hw hp;omega) hs];exact h.at_ k hk hw
theorem Bl.jl (h:Bl H b l) (o off:Nat) (xs:Array Value) (h1:bI xs) (hn:o+off+xs.size<=l.length):jl H (some ⟨b,o,none⟩) off xs:=by
 refine⟨h1,.inr ?_⟩;rw[eJ _ rfl];exact h.bK hn
def w8 (l:List UInt8):List Value:=l.map fun x=>.int .u8 x.toNat
theorem iU (l:List UInt8):(w8 l).length=l.length:=by simp[w8]
theorem HP (l:List UInt8) (i:Nat) (h:i<l.length):(w8 l)[i]?=some (.int .u8 (l.getD i 0).toNat):=by
 simp[w8,h]
theorem qI {k:FuncId} {a:Array Value} {R:Value->Hp->Prop} (h:∀Q,Q=R->ak P k a H Q):ak P k a H R:=h R rfl
theorem al
  (h:∀H' b,b=H.size->H'.size=H.size+1->Bl H' b z.toList->af (fun _=>False) H H'->ops P r (d.env (.pointer (some ⟨b,0,none⟩)) e) (d.fr (.pointer (some ⟨b,0,none⟩)) f) H' Q):
  tP P d r e f Q (.pointer (some ⟨H.size,0,none⟩)) (H.push (.cells z T)):=
 h _ _ rfl (by simp) (Bl.cH _ _ _) ((af.refl _ _).push _)
theorem dg (v:Value) (n:Nat):(rep #[v] n).toList=List.replicate n v:=by
 unfold rep;simp[Nat.mod_one,List.map_const']
attribute [go_sem] List.forall_mem_cons List.flatMap_cons List.flatMap_nil List.size_toArray List.length_cons List.length_nil List.not_mem_nil false_imp_iff implies_true List.append_nil List.cons_append List.nil_append
theorem aG {m:Nat}
  (h:∀H' b,b=H.size->H'.size=H.size+1->Bl H' b z.toList->af (fun _=>False) H H'->ops P r (d.env (.slice (some ⟨b,0,none⟩) m c) e) (d.fr (.slice (some ⟨b,0,none⟩) m c) f) H' Q):
  tP P d r e f Q (.slice (some ⟨H.size,0,none⟩) m c) (H.push (.cells z T)):=h _ _ rfl (by simp) (Bl.cH _ _ _) ((af.refl _ _).push _)
theorem Bl.gB (h:Bl H b l) (o n c k:Nat) (hk:o+k<=l.length):Mg.gB H (.slice (some ⟨b,o,none⟩) n c) k=some ((l.drop o).take k).toArray:=by
 show(if k=0 then some #[]else Mg.aR H ⟨b,o,none⟩ k)=_
 split
 ·rename_i h0;subst h0;simp
 ·exact h.aR hk
theorem Bl.cz (h:Bl H b l) (o n c:Nat) (hk:o+n<=l.length):Mg.cz H (.slice (some ⟨b,o,none⟩) n c)=some ((l.drop o).take n).toArray:=by
 show(if n=0 then some #[]else Mg.aR H ⟨b,o,none⟩ n)=_
 split
 ·rename_i h0;subst h0;simp
 ·exact h.aR hk
theorem aM.cz (h:aM H v l):Mg.cz H v=some l.toArray:=by
 rcases h with⟨a,c,rfl,rfl⟩|⟨b,o,c,hl,rfl,h0,C,T,z,h1,h2,h3⟩
 ·cases a<;>rfl
 ·show(if l.length=0 then some #[]else Mg.aR H ⟨b,o,none⟩ l.length)=_
  rw[if_neg (by simpa using hl)];simp only[Mg.aR,Option.isSome_none,Bool.false_eq_true,if_false,h1];rw[if_pos h2]
  congr 1
  apply Array.ext';simp only[Array.toList_extract,List.extract_eq_take_drop,Nat.add_sub_cancel_left];exact h3
theorem toBA_w8 (l:List UInt8):toBA (w8 l).toArray=⟨l.toArray⟩:=by
 have:(fun x:UInt8=>UInt8.ofNat (Value.int .u8 (x.toNat:Int)).i.toNat)=id:=by funext x;simp[Value.i]
 simp only[toBA,w8,List.map_toArray,List.map_map,Function.comp_def];rw[this];simp
theorem yP {l:List UInt8} (h:cz H v=some (w8 l).toArray):Ej H v:=by
 refine⟨_,h,fun x hx=>?_⟩;simp[w8]at hx;obtain⟨y,_,rfl⟩:=hx;rfl
attribute [go_sem] true_imp_iff Bool.not_true Bool.not_false
@[go_sem] theorem YJ (b:Bool):(b==true)=b:=by cases b<;>rfl
@[go_sem] theorem acY (b:Bool):(false !=b)=b:=by cases b<;>rfl
@[go_sem] theorem acZ (b:Bool):(true !=b)=!b:=by cases b<;>rfl
@[go_sem] theorem YK (b:Bool):(b==false)=!b:=by cases b<;>rfl
@[go_sem] theorem YL (b:Bool):(b !=true)=!b:=by cases b<;>rfl
@[go_sem] theorem YM (b:Bool):(b !=false)=b:=by cases b<;>rfl
@[go_sem] theorem Ss (H:Hp) (z:Array Value) (T:TypeId) (m:Nat×Nat):yD (H.push (.cells z T m)) H.size=some z.size:=by simp[yD]
theorem YN (H:Hp) (z:Array Value) (T:TypeId) (n:Nat):af (fun _=>False) H (Mr (H.push (.cells z T)) H.size n)/\(Mr (H.push (.cells z T)) H.size n).size=H.size+1∧
  ∀c,z.size<=c->aM (Mr (H.push (.cells z T)) H.size n) (.slice (some ⟨H.size,0,none⟩) z.size c) z.toList:=by
 have hs:(Mr (H.push (.cells z T)) H.size n).size=H.size+1:=by simp[Mr]
 refine⟨⟨by omega,fun k hk _=>?_⟩,hs,fun c hc=>?_⟩
 ·unfold Mr;rw[Array.getElem?_modify,if_neg (by omega)];exact dN hk
 ·have hm:(Mr (H.push (.cells z T)) H.size n)[H.size]?=some (.cells z T (n,n+1)):=by
   unfold Mr;rw[Array.getElem?_modify,if_pos rfl];simp
  have:=aM.at_ (l:=z.toList) (o:=0) (c:=c) (by simpa using hc) hm (by simp) (by rw[List.drop_zero,List.take_of_length_le (Nat.le_refl _)]);simpa using this
theorem af.none (h:af W A B) (hw:∀k,k<A.size->¬W k):af (fun _=>False) A B:=
 h.mono (fun k hk hW=>hw k hk hW)
theorem af.any (h:af (fun _=>False) A B):af W A B:=h.mono (fun _ _ h=>h.elim)
theorem eY (H:Hp) (a:Addr) (xs:List Value):yl H (.pointer (some a)) xs=az H a xs:=rfl
theorem iV (H:Hp) (a:Addr) (n:Nat):UP H (.pointer (some a)) n=bK H a n:=rfl
theorem aB (H:Hp) (a:Addr) (n:Nat):aD H (.pointer (some a)) n=aR H a n:=rfl
theorem aT (C:Array Value):(Value.agg C).cells=C:=rfl
@[go_sem] theorem aae (a:Value):(#[a]:Array Value)[0]?=some a:=rfl
@[go_sem] theorem aaf (a b:Value):(#[a,b]:Array Value)[0]?=some a:=rfl
@[go_sem] theorem aag (a b:Value):(#[a,b]:Array Value)[1]?=some b:=rfl
@[go_sem] theorem aah (a b c:Value):(#[a,b,c]:Array Value)[0]?=some a:=rfl
@[go_sem] theorem aai (a b c:Value):(#[a,b,c]:Array Value)[1]?=some b:=rfl
@[go_sem] theorem aaj (a b c:Value):(#[a,b,c]:Array Value)[2]?=some c:=rfl
@[go_sem] theorem aak (a b c d:Value):(#[a,b,c,d]:Array Value)[0]?=some a:=rfl
@[go_sem] theorem aal (a b c d:Value):(#[a,b,c,d]:Array Value)[1]?=some b:=rfl
@[go_sem] theorem aam (a b c d:Value):(#[a,b,c,d]:Array Value)[2]?=some c:=rfl
@[go_sem] theorem aan (a b c d:Value):(#[a,b,c,d]:Array Value)[3]?=some d:=rfl
@[go_sem] theorem aao (a b c d e:Value):(#[a,b,c,d,e]:Array Value)[0]?=some a:=rfl
@[go_sem] theorem aap (a b c d e:Value):(#[a,b,c,d,e]:Array Value)[1]?=some b:=rfl
@[go_sem] theorem aaq (a b c d e:Value):(#[a,b,c,d,e]:Array Value)[2]?=some c:=rfl
@[go_sem] theorem aar (a b c d e:Value):(#[a,b,c,d,e]:Array Value)[3]?=some d:=rfl
@[go_sem] theorem aas (a b c d e:Value):(#[a,b,c,d,e]:Array Value)[4]?=some e:=rfl
@[go_sem] theorem aat (a:Value): [a][0]?=some a:=rfl
@[go_sem] theorem aau (a b:Value): [a,b][0]?=some a:=rfl
@[go_sem] theorem aav (a b:Value): [a,b][1]?=some b:=rfl
@[go_sem] theorem aaw (a b c:Value): [a,b,c][0]?=some a:=rfl
@[go_sem] theorem aax (a b c:Value): [a,b,c][1]?=some b:=rfl
@[go_sem] theorem aay (a b c:Value): [a,b,c][2]?=some c:=rfl
@[go_sem] theorem aaz (a b c d:Value): [a,b,c,d][0]?=some a:=rfl
@[go_sem] theorem aaA (a b c d:Value): [a,b,c,d][1]?=some b:=rfl
@[go_sem] theorem aaB (a b c d:Value): [a,b,c,d][2]?=some c:=rfl
@[go_sem] theorem aaC (a b c d:Value): [a,b,c,d][3]?=some d:=rfl
@[go_sem] theorem aaD (a b c d e:Value): [a,b,c,d,e][0]?=some a:=rfl
@[go_sem] theorem aaE (a b c d e:Value): [a,b,c,d,e][1]?=some b:=rfl
@[go_sem] theorem aaF (a b c d e:Value): [a,b,c,d,e][2]?=some c:=rfl
@[go_sem] theorem aaG (a b c d e:Value): [a,b,c,d,e][3]?=some d:=rfl
@[go_sem] theorem aaH (a b c d e:Value): [a,b,c,d,e][4]?=some e:=rfl
@[go_sem] theorem aaI (a b c d e f:Value): [a,b,c,d,e,f][0]?=some a:=rfl
@[go_sem] theorem aaJ (a b c d e f:Value): [a,b,c,d,e,f][1]?=some b:=rfl
@[go_sem] theorem aaK (a b c d e f:Value): [a,b,c,d,e,f][2]?=some c:=rfl
@[go_sem] theorem aaL (a b c d e f:Value): [a,b,c,d,e,f][3]?=some d:=rfl
@[go_sem] theorem aaM (a b c d e f:Value): [a,b,c,d,e,f][4]?=some e:=rfl
@[go_sem] theorem aaN (a b c d e f:Value): [a,b,c,d,e,f][5]?=some f:=rfl
@[go_sem] theorem aaO (a b c d e f g:Value): [a,b,c,d,e,f,g][0]?=some a:=rfl
@[go_sem] theorem aaP (a b c d e f g:Value): [a,b,c,d,e,f,g][1]?=some b:=rfl
@[go_sem] theorem aaQ (a b c d e f g:Value): [a,b,c,d,e,f,g][2]?=some c:=rfl
@[go_sem] theorem aaR (a b c d e f g:Value): [a,b,c,d,e,f,g][3]?=some d:=rfl
@[go_sem] theorem aaS (a b c d e f g:Value): [a,b,c,d,e,f,g][4]?=some e:=rfl
@[go_sem] theorem aaT (a b c d e f g:Value): [a,b,c,d,e,f,g][5]?=some f:=rfl
@[go_sem] theorem aaU (a b c d e f g:Value): [a,b,c,d,e,f,g][6]?=some g:=rfl
end Go.Mg
namespace Go.Mg
open Go Go.RowKit
def bY (H:Hp) (v:Value) (l:List Value):Prop:=
 (v=.slice none 0 0/\l=[])\/∃b c L,v=.slice (some ⟨b,0,none⟩) l.length c/\l.length<=c/\c<=L.length/\Bl H b L/\L.take l.length=l
def ay:Value->Nat->Prop
 |.slice (some p) _ _,k=>k=p.block
 |_,_=>False
variable {H:Hp} {v s x:Value} {l m:List Value} {k b n c bytes:Nat} {T:TypeId} {z:Array Value} {K:Value->Hp->Prop}
theorem bY.sl (h:bY H v l):aM H v l:=by
 rcases h with⟨rfl,rfl⟩|⟨b,c,L,rfl,h1,h2,hb,h3⟩
 ·exact aM.nil _ _ _
 ·have:=aM.bl hb 0 l.length c h1 (by omega);rw[List.drop_zero,h3]at this;exact this
theorem bY.aV (h:bY H v l) (hk:aV v k):ay v k:=by
 rcases h with⟨rfl,rfl⟩|⟨b,c,L,rfl,h1,h2,hb,h3⟩
 ·exact hk.elim
 ·exact hk.1
theorem bY.bE (h:bY H v l) (hk:ay v k):k<H.size:=by
 rcases h with⟨rfl,rfl⟩|⟨b,c,L,rfl,h1,h2,hb,h3⟩
 ·exact hk.elim
 ·cases hk;exact hb.lt
theorem bY.ag {W:Nat->Prop} {H':Hp} (h:bY H v l) (hk:af W H H') (hw:∀k,ay v k->¬W k):bY H' v l:=by
 rcases h with h|⟨b,c,L,rfl,h1,h2,hb,h3⟩
 ·exact .inl h
 ·exact .inr ⟨b,c,L,rfl,h1,h2,hk.bl hb (hw b rfl),h3⟩
theorem bY.nil (H:Hp):bY H (.slice none 0 0) []:=.inl ⟨rfl,rfl⟩
theorem bY.new (h:Bl H b l) (hn:n=l.length) (hc:n=c):bY H (.slice (some ⟨b,0,none⟩) n c) l:=by
 subst hc;subst hn;exact .inr ⟨b,_,l,rfl,Nat.le_refl _,Nat.le_refl _,h,List.take_length⟩
theorem bY.bl {L:List Value} (h:Bl H b L) (hn:n=l.length) (h1:n<=c) (h2:c<=L.length) (h3:L.take n=l):bY H (.slice (some ⟨b,0,none⟩) n c) l:=by
 subst hn;exact .inr ⟨b,c,L,rfl,h1,h2,h,h3⟩
theorem yQ (l m r:List Value):List.take (l.length+m.length) (l++m++r)=l++m:=by
 rw[<-List.length_append];exact List.take_left' rfl
theorem Na {str:Bool} (hs:bY H s l) (hx0:ph str x) (hxl:bX x=m.length) (hx:gB H x m.length=some m.toArray)
  (hm:bI m.toArray) (hz:z.size=1) (h1:l.length+m.length<=maxLen) (h2:(l.length+m.length)*bytes<=140737488355328)
  (hK:∀v' H',bY H' v' (l++m)->af (ay s) H H'->(∀k,ay v' k->ay s k\/H.size<=k)->K v' H'):jy str T 1 bytes z s x H K:=by
 have hsl:=hs.sl;have hlen:=hsl.len;refine⟨⟨hsl.aq,hx0,by rw[hlen,hxl];exact h1,by rw[hlen,hxl];exact h2⟩,m.toArray,by rw[Nat.mul_one,hxl];exact hx,?_⟩;rw[hlen,hxl,Nat.mul_one];rcases hs with⟨rfl,rfl⟩|⟨b,c,L,rfl,g1,g2,hb,g3⟩
 ·refine⟨fun hle=>?_,fun _=>⟨#[],rfl,fun c hc=>?_⟩⟩
  ·have:m=[]:=by
    have:([]:List Value).length+m.length<=0:=hle;apply List.eq_nil_of_length_eq_zero;simpa using this
   subst this;exact⟨trivial,hK _ _ (bY.nil _) (af.refl _ _) (fun k h=>.inl h)⟩
  ·have hB:=Bl.cH H (#[]++m.toArray++rep z ((c -(([]:List Value).length+m.length))*z.size)) T;refine hK _ _ (bY.bl hB (by simp) (by simpa using hc) ?_ ?_) ((af.refl _ _).push _) (fun k h=>.inr (Nat.le_of_eq h.symm))
   ·simp[rep,hz]at hc⊢;omega
   ·simp
 ·refine⟨fun hle=>?_,fun hlt=>⟨_,hsl.gB (Nat.le_refl _),fun c' hc=>?_⟩⟩
  ·have hle:l.length+m.length<=c:=hle;refine⟨hb.jl _ _ _ hm (by simp;omega),?_⟩;have hB:=hb.put 0 l.length m.toArray;refine hK _ _ (bY.bl hB (by simp) hle ?_ ?_) ((af.refl _ _).put rfl _ _ (.inl rfl)) (fun k h=>.inl h)
   ·rw[j9 (by simp;omega)];exact g2
   ·unfold nJ;rw[Nat.zero_add,g3];exact yQ _ _ _
  ·rw[List.take_length];have hB:=Bl.cH H (l.toArray++m.toArray++rep z ((c' -(l.length+m.length))*z.size)) T;refine hK _ _ (bY.bl hB (by simp) hc ?_ ?_) ((af.refl _ _).push _) (fun k h=>.inr (Nat.le_of_eq h.symm))
   ·simp[rep,hz];omega
   ·rw[Array.toList_append,Array.toList_append];exact yQ _ _ _
theorem lI (hs:bY H s l) (hx:aM H x m)
  (hm:bI m.toArray) (hz:z.size=1) (h1:l.length+m.length<=maxLen) (h2:(l.length+m.length)*bytes<=140737488355328)
  (hK:∀v' H',bY H' v' (l++m)->af (ay s) H H'->(∀k,ay v' k->ay s k\/H.size<=k)->K v' H'):jy false T 1 bytes z s x H K:=
 Na hs hx.aq hx.bX (by have:=hx.gB (Nat.le_refl m.length);rwa [List.take_length]at this) hm hz h1 h2 hK
end Go.Mg
namespace Go.Mg
variable {n:Nat} {H H':Hp}
theorem af.nQ {H0:Hp} (h:af (fun _=>False) H0 H) (k:af (fun k=>n<=k) H H') (hn:H0.size<=n):af (fun _=>False) H0 H':=
 h.trans' k (fun i hi e=>by omega)
theorem af.dh (h:af (fun _=>False) H H'):af (fun k=>n<=k) H H':=h.mono fun _ _ h=>h.elim
end Go.Mg
namespace Go.Mg
theorem bY.some {H:Hp} {v:Value} {l:List Value} (h:bY H v l) (hl:l≠[]):∃b c L,v=.slice (some ⟨b,0,none⟩) l.length c/\l.length<=c/\c<=L.length/\Bl H b L/\L.take l.length=l/\∀i,i<l.length->L[i]?=l[i]?:=by
 rcases h with⟨_,rfl⟩|⟨b,c,L,h1,h2,h3,h4,h5⟩
 ·exact(hl rfl).elim
 ·refine⟨b,c,L,h1,h2,h3,h4,h5,fun i hi=>?_⟩
  conv=>rhs;rw[<-h5]
  rw[List.getElem?_take,if_pos hi]
end Go.Mg
namespace Go.Mg
theorem kh {T:TypeId} {bytes:Nat} {z:Array Value} {s x:Value} {H:Hp} {K:Value->Hp->Prop} {l m:List Value} (n:Nat) (hs:bY H s l) (hn:∀k,ay s k->n<=k) (hH:n<=H.size) (hx:aM H x m)
  (hm:bI m.toArray) (hz:z.size=1) (hb:bytes<=64) (h1:l.length+m.length<=1000000000)
  (hK:∀v' H',bY H' v' (l++m)->(∀k,ay v' k->n<=k)->af (fun k=>n<=k) H H'->K v' H'):jy false T 1 bytes z s x H K:=
 lI hs hx hm hz (by unfold maxLen;omega) (Nat.le_trans (Nat.mul_le_mul h1 hb) (by omega)) fun v' H' h1 h2 h3=>hK v' H' h1 (fun k hk=>by rcases h3 k hk with h|h;exact hn k h;omega) (h2.mono fun k _ hk=>hn k hk)
end Go.Mg
namespace Go.Mg
variable {H:Hp} {l:List Value}
theorem aM.cells {v:Value} (h:aM H v l) (hl:l≠[]):∃b o c,v=.slice (Option.some ⟨b,o,none⟩) l.length c/\l.length<=c/\∀i,i<l.length->Mg.cell H ⟨b,o+i,none⟩=l[i]?:=by
 rcases h with⟨_,_,_,rfl⟩|⟨b,o,c,_,h1,h2,C,T,z,h3,h4,h5⟩
 ·exact(hl rfl).elim
 ·refine⟨b,o,c,h1,h2,fun i hi=>?_⟩
  conv=>rhs;rw[<-h5]
  rw[List.getElem?_take,if_pos hi,List.getElem?_drop];simp[Mg.cell,h3]
theorem aM.Ew {b o n c:Nat} (h:aM H (.slice (Option.some ⟨b,o,none⟩) n c) l) {i:Nat} (hi:i<l.length):Mg.cell H ⟨b,o+i,none⟩=l[i]?:=by
 obtain⟨b',o',c',e,-,hc⟩:=h.cells (by intro e;rw[e]at hi;simp at hi)
 cases e
 exact hc i hi
theorem pn {α:Type} (p:Nat->α->Prop) (d:α):∀n,(∀i,i<n->∃x,p i x)->∃xs:List α,xs.length=n/\∀i,i<n->p i (xs.getD i d)
 |0,_=>⟨[],rfl,fun i h=>by omega⟩
 |n+1,h=>by
  obtain⟨xs,h1,h2⟩:=pn p d n (fun i hi=>h i (by omega));obtain⟨x,hx⟩:=h n (by omega);refine⟨xs++[x],by simp[h1],fun i hi=>?_⟩
  by_cases e:i<n
  ·rw[List.getD_eq_getElem?_getD,List.getElem?_append_left (by omega),<-List.getD_eq_getElem?_getD];exact h2 i e
  ·have:i=n:=by omega
   subst this;rw[List.getD_eq_getElem?_getD,List.getElem?_append_right (by omega),h1];simpa using hx
end Go.Mg
namespace Go.Mg
theorem vo {H:Hp} {b c:Nat} {L l:List Value} (hB:Bl H b L) (h1:l.length<=c) (h2:c<=L.length) (h3:L.take l.length=l) (i:Nat) (v:Value) (_:i<l.length):
  bY (ax H ⟨b,i,none⟩ v) (.slice (some ⟨b,0,none⟩) l.length c) (l.set i v):=
 bY.bl (hB.ax i v) (by simp) h1 (by simpa using h2) (by rw[List.take_set,h3])
end Go.Mg
namespace Go.Mg
theorem bY.shape {H:Hp} {v:Value} {l:List Value} (h:bY H v l):∃a n c,v=.slice a n c:=by
 rcases h with⟨rfl,_⟩|⟨b,c,L,rfl,_⟩<;>exact⟨_,_,_,rfl⟩
end Go.Mg
namespace Go.Mg
def iL (l:List Int):List Value:=l.map (Value.int .i64)
theorem aA (l:List Int):(iL l).length=l.length:=by simp[iL]
theorem du (l:List Int) (i:Nat) (h:i<l.length):(iL l)[i]?=some (.int .i64 (l.getD i 0)):=by simp[iL,h]
theorem HQ (a b:List Int):iL (a++b)=iL a++iL b:=by simp[iL]
theorem iW (l:List Int) (i:Nat) (x:Int):(iL l).set i (.int .i64 x)=iL (l.set i x):=by simp[iL,List.map_set]
theorem gH (l:List Int):bI (iL l).toArray:=by
 intro x hx;simp[iL]at hx;obtain⟨y,_,rfl⟩:=hx;rfl
theorem qR (n:Nat) (x:Int):List.replicate n (Value.int .i64 x)=iL (List.replicate n x):=by simp[iL]
end Go.Mg
namespace Go.Mg
open Go Go.RowKit
section
variable {α:Type} {enc:α->List Value} {k:Nat}
theorem qS (hk:∀x,(enc x).length=k) (l:List α):(l.flatMap enc).length=l.length*k:=by
 induction l with
 |nil=>simp
 |cons a l ih=>simp[ih,hk,Nat.succ_mul,Nat.add_comm]
theorem yR (hk:∀x,(enc x).length=k) (l:List α) (i:Nat) (x:α) (h:l[i]?=some x):((l.flatMap enc).drop (i*k)).take k=enc x:=by
 induction l generalizing i with
 |nil=>simp at h
 |cons a l ih=>
  cases i with
  |zero=>
   simp at h;subst h;rw[Nat.zero_mul,List.drop_zero,List.flatMap_cons];exact List.take_left' (hk _)
  |succ i=>
   simp at h;rw[List.flatMap_cons,Nat.succ_mul,Nat.add_comm,<-List.drop_drop,List.drop_left' (hk _)];exact ih i h
theorem vp (hk:∀x,(enc x).length=k) (l:List α) (i:Nat) (h:i<=l.length):(l.flatMap enc).take (i*k)=(l.take i).flatMap enc:=by
 induction l generalizing i with
 |nil=>simp
 |cons a l ih=>
  cases i with
  |zero=>simp
  |succ i=>
   rw[List.flatMap_cons,List.take_succ_cons,List.flatMap_cons,Nat.succ_mul,Nat.add_comm,List.take_append,hk,List.take_of_length_le (by rw[hk];omega),Nat.add_sub_cancel_left,ih i (by simpa using h)]
theorem Nb (hk:∀x,(enc x).length=k) (l:List α) (i:Nat) (h:i<=l.length):(l.flatMap enc).drop (i*k)=(l.drop i).flatMap enc:=by
 induction l generalizing i with
 |nil=>simp
 |cons a l ih=>
  cases i with
  |zero=>simp
  |succ i=>
   rw[List.flatMap_cons,List.drop_succ_cons,Nat.succ_mul,Nat.add_comm,<-List.drop_drop,List.drop_left' (hk _),ih i (by simpa using h)]
theorem Nc (h1:∀x,∀v∈enc x,v.oneCell'=true) (l:List α):bI (l.flatMap enc).toArray:=by
 intro x hx;simp only[List.mem_flatMap]at hx;obtain⟨a,_,hx⟩:=hx;exact h1 a x hx
def bk (enc:α->List Value) (k:Nat) (H:Hp) (v:Value) (l:List α):Prop:=
 (∃a c,v=.slice a 0 c/\l=[])\/∃b o c,l≠[]/\v=.slice (some ⟨b,o,none⟩) l.length c/\l.length<=c/\∃C T z,H[b]?=some (.cells C T z)/\o+l.length*k<=C.size/\(C.toList.drop o).take (l.length*k)=l.flatMap enc
theorem bk.nil (H:Hp) (a:Option Addr) (c:Nat):bk enc k H (.slice a 0 c) []:=.inl ⟨a,c,rfl,rfl⟩
theorem bk.at_ {H:Hp} {b o c:Nat} {l:List α} {C:Array Value} {T:TypeId} {z:Nat×Nat} (hc:l.length<=c) (h:H[b]?=some (.cells C T z)) (h1:o+l.length*k<=C.size) (h2:(C.toList.drop o).take (l.length*k)=l.flatMap enc):
  bk enc k H (.slice (some ⟨b,o,none⟩) l.length c) l:=by
 by_cases hl:l=[]
 ·subst hl;exact bk.nil _ _ _
 ·exact .inr ⟨b,o,c,hl,rfl,hc,C,T,z,h,h1,h2⟩
theorem bk.congr {H H':Hp} {v:Value} {l:List α} (h:bk enc k H v l) (hk:∀q,aV v q->H'[q]?=H[q]?):bk enc k H' v l:=by
 rcases h with h|⟨b,o,c,hl,rfl,h0,C,T,z,h1,h2,h3⟩
 ·exact .inl h
 ·exact .inr ⟨b,o,c,hl,rfl,h0,C,T,z,by rw[hk b ⟨rfl,by simpa using hl⟩];exact h1,h2,h3⟩
theorem bk.bE {H:Hp} {v:Value} {l:List α} (h:bk enc k H v l) {q:Nat} (hq:aV v q):q<H.size:=by
 rcases h with⟨a,c,rfl,_⟩|⟨b,o,c,_,rfl,h0,C,T,z,h1,h2,h3⟩
 ·cases a<;>simp[aV]at hq
 ·obtain⟨rfl,_⟩:=hq;exact(Array.getElem?_eq_some_iff.1 h1).1
theorem bk.ag {W:Nat->Prop} {H H':Hp} {v:Value} {l:List α} (h:bk enc k H v l) (hk:af W H H') (hw:∀q,aV v q->¬W q):bk enc k H' v l:=
 h.congr fun q hb=>hk.at_ q (h.bE hb) (hw q hb)
theorem bk.ai {H H':Hp} {v:Value} {l:List α} (h:bk enc k H v l) (hk:af (fun _=>False) H H'):bk enc k H' v l:=h.ag hk fun _ _ h=>h
theorem bk.aq {H:Hp} {v:Value} {l:List α} (h:bk enc k H v l):Mg.aq v:=by
 rcases h with⟨a,c,rfl,_⟩|⟨b,o,c,_,rfl,_⟩<;>trivial
theorem bk.len {H:Hp} {v:Value} {l:List α} (h:bk enc k H v l):aO v=l.length:=by
 rcases h with⟨a,c,rfl,rfl⟩|⟨b,o,c,_,rfl,_⟩<;>rfl
theorem bk.bX {H:Hp} {v:Value} {l:List α} (h:bk enc k H v l):Mg.bX v=l.length:=by
 rcases h with⟨a,c,rfl,rfl⟩|⟨b,o,c,_,rfl,_⟩<;>rfl
theorem bk.mk {H:Hp} {v:Value} {l:List α} (h:bk enc k H v l):∃a c,v=.slice a l.length c/\l.length<=c:=by
 rcases h with⟨a,c,rfl,rfl⟩|⟨b,o,c,_,rfl,h0,_⟩
 ·exact⟨a,c,rfl,Nat.zero_le _⟩
 ·exact⟨_,c,rfl,h0⟩
theorem bk.gB {H:Hp} {v:Value} {l:List α} (h:bk enc k H v l):Mg.gB H v (l.length*k)=some (l.flatMap enc).toArray:=by
 rcases h with⟨a,c,rfl,rfl⟩|⟨b,o,c,_,rfl,h0,C,T,z,h1,h2,h3⟩
 ·rw[List.length_nil,Nat.zero_mul,AO];rfl
 ·show(if l.length*k=0 then some #[]else Mg.aR H ⟨b,o,none⟩ (l.length*k))=_
  split
  ·rename_i hk0;rw[<-h3,hk0];simp
  ·simp only[Mg.aR,Option.isSome_none,Bool.false_eq_true,if_false,h1];rw[if_pos (by omega)]
   congr 1
   apply Array.ext';simp only[Array.toList_extract,List.extract_eq_take_drop,Nat.add_sub_cancel_left];exact h3
theorem bk.bl {H:Hp} {b:Nat} {L:List Value} (h:Bl H b L) {l:List α} (hl:L.take (l.length*k)=l.flatMap enc) (hL:l.length*k<=L.length) {c:Nat} (hc:l.length<=c):bk enc k H (.slice (some ⟨b,0,none⟩) l.length c) l:=by
 obtain⟨T,h⟩:=h;exact bk.at_ hc h (by simpa using hL) (by simpa using hl)
theorem bk.elem {H:Hp} {v:Value} {l:List α} (h:bk enc k H v l) (hk:∀x,(enc x).length=k) {i:Nat} (hi:i<l.length):∃b o c,v=.slice (some ⟨b,o,none⟩) l.length c/\aV v b/\Mg.aR H ⟨b,o+i*k,none⟩ k=some (enc l[i]).toArray:=by
 rcases h with⟨a,c,_,rfl⟩|⟨b,o,c,hl,rfl,h0,C,T,z,h1,h2,h3⟩
 ·simp at hi
 ·refine⟨b,o,c,rfl,⟨rfl,by simpa using hl⟩,?_⟩;have hle:i*k+k<=l.length*k:=by rw[<-Nat.succ_mul];exact Nat.mul_le_mul_right k hi
  unfold Mg.aR;simp only[h1,Option.isSome_none,Bool.false_eq_true,if_false];rw[if_pos (by omega)]
  congr 1
  apply Array.ext';simp only[Array.toList_extract,List.extract_eq_take_drop,Nat.add_sub_cancel_left];rw[<-yR hk l i l[i] (List.getElem?_eq_getElem hi),<-h3,List.drop_take,List.take_take,List.drop_drop,Nat.min_eq_left (by omega)]
theorem bk.cell {H:Hp} {v:Value} {l:List α} (h:bk enc k H v l) (hk:∀x,(enc x).length=k) {i:Nat} (hi:i<l.length) {j:Nat} (hj:j<k):∃b o c,v=.slice (some ⟨b,o,none⟩) l.length c/\aV v b/\Mg.cell H ⟨b,o+i*k+j,none⟩=(enc l[i])[j]?:=by
 rcases h with⟨a,c,_,rfl⟩|⟨b,o,c,hl,rfl,h0,C,T,z,h1,h2,h3⟩
 ·simp at hi
 ·refine⟨b,o,c,rfl,⟨rfl,by simpa using hl⟩,?_⟩;have hle:i*k+k<=l.length*k:=by rw[<-Nat.succ_mul];exact Nat.mul_le_mul_right k hi
  rw[<-yR hk l i l[i] (List.getElem?_eq_getElem hi),<-h3,List.drop_take,List.take_take,List.drop_drop,Nat.min_eq_left (by omega),List.getElem?_take,if_pos hj,List.getElem?_drop];simp[Mg.cell,h1]
def ct (enc:α->List Value) (k:Nat) (H:Hp) (v:Value) (l:List α):Prop:=
 (v=.slice none 0 0/\l=[])\/∃b c L,v=.slice (some ⟨b,0,none⟩) l.length c/\l.length<=c/\c*k<=L.length/\Bl H b L/\L.take (l.length*k)=l.flatMap enc
theorem ct.sl {H:Hp} {v:Value} {l:List α} (h:ct enc k H v l):bk enc k H v l:=by
 rcases h with⟨rfl,rfl⟩|⟨b,c,L,rfl,h1,h2,hb,h3⟩
 ·exact bk.nil _ _ _
 ·exact bk.bl hb h3 (Nat.le_trans (Nat.mul_le_mul_right k h1) h2) h1
theorem ct.aV {H:Hp} {v:Value} {l:List α} (h:ct enc k H v l) {q:Nat} (hq:aV v q):ay v q:=by
 rcases h with⟨rfl,rfl⟩|⟨b,c,L,rfl,h1,h2,hb,h3⟩
 ·exact hq.elim
 ·exact hq.1
theorem ct.bE {H:Hp} {v:Value} {l:List α} (h:ct enc k H v l) {q:Nat} (hq:ay v q):q<H.size:=by
 rcases h with⟨rfl,rfl⟩|⟨b,c,L,rfl,h1,h2,hb,h3⟩
 ·exact hq.elim
 ·cases hq;exact hb.lt
theorem ct.ag {W:Nat->Prop} {H H':Hp} {v:Value} {l:List α} (h:ct enc k H v l) (hk:af W H H') (hw:∀q,ay v q->¬W q):ct enc k H' v l:=by
 rcases h with h|⟨b,c,L,rfl,h1,h2,hb,h3⟩
 ·exact .inl h
 ·exact .inr ⟨b,c,L,rfl,h1,h2,hk.bl hb (hw b rfl),h3⟩
theorem ct.nil (H:Hp):ct enc k H (.slice none 0 0) []:=.inl ⟨rfl,rfl⟩
theorem ct.bl {H:Hp} {b n c:Nat} {l:List α} {L:List Value} (h:Bl H b L) (hn:n=l.length) (h1:n<=c) (h2:c*k<=L.length) (h3:L.take (n*k)=l.flatMap enc):ct enc k H (.slice (some ⟨b,0,none⟩) n c) l:=by
 subst hn;exact .inr ⟨b,c,L,rfl,h1,h2,h,h3⟩
theorem ct.shape {H:Hp} {v:Value} {l:List α} (h:ct enc k H v l):∃a n c,v=.slice a n c:=by
 rcases h with⟨rfl,_⟩|⟨b,c,L,rfl,_⟩<;>exact⟨_,_,_,rfl⟩
theorem ct.some {H:Hp} {v:Value} {l:List α} (h:ct enc k H v l) (hl:l≠[]):∃b c L,v=.slice (some ⟨b,0,none⟩) l.length c/\l.length<=c/\c*k<=L.length/\Bl H b L/\L.take (l.length*k)=l.flatMap enc:=by
 rcases h with⟨_,rfl⟩|h
 ·exact(hl rfl).elim
 ·exact h
theorem St {T:TypeId} {bytes:Nat} {z:Array Value} {s x:Value} {H:Hp} {K:Value->Hp->Prop} {l m:List α} (hk:∀x,(enc x).length=k) (h1c:∀x,∀v∈enc x,v.oneCell'=true) (hs:ct enc k H s l) (hx:bk enc k H x m)
  (hz:z.size=k) (h1:l.length+m.length<=maxLen) (h2:(l.length+m.length)*bytes<=140737488355328)
  (hK:∀v' H',ct enc k H' v' (l++m)->af (ay s) H H'->(∀q,ay v' q->ay s q\/H.size<=q)->bk enc k H' s l->K v' H'):jy false T k bytes z s x H K:=by
 have hsl:=hs.sl;have hlen:=hsl.len;have hxl:=hx.bX;have fm:=qS hk m;have fl:=qS hk l;have V4:(l.flatMap enc++m.flatMap enc).length=(l.length+m.length)*k:=by rw[List.length_append,fm,fl,Nat.add_mul]
 refine⟨⟨hsl.aq,hx.aq,by rw[hlen,hxl];exact h1,by rw[hlen,hxl];exact h2⟩,(m.flatMap enc).toArray,by rw[hxl];exact hx.gB,?_⟩;rw[hlen,hxl];rcases hs with⟨rfl,rfl⟩|⟨b,c,L,rfl,g1,g2,hb,g3⟩
 ·refine⟨fun hle=>?_,fun _=>⟨#[],by rw[List.length_nil,Nat.zero_mul,AO],fun c hc=>?_⟩⟩
  ·have:m=[]:=by
    have:([]:List α).length+m.length<=0:=hle;apply List.eq_nil_of_length_eq_zero;simpa using this
   subst this;exact⟨trivial,hK _ _ (ct.nil _) (af.refl _ _) (fun k h=>.inl h) (bk.nil _ _ _)⟩
  ·have hB:=Bl.cH H (#[]++(m.flatMap enc).toArray++rep z ((c -(([]:List α).length+m.length))*z.size)) T;refine hK _ _ (ct.bl hB (by simp) (by simpa using hc) ?_ ?_) ((af.refl _ _).push _) (fun k h=>.inr (Nat.le_of_eq h.symm)) (bk.nil _ _ _)
   ·simp only[List.length_nil,Nat.zero_add]at hc⊢;simp only[rep,hz,Array.toList_append,List.length_append,fm,List.length_map,Array.toList_map,Array.length_toList,Array.size_range,List.length_nil,Nat.zero_add];rw[<-Nat.add_mul,Nat.add_sub_of_le hc];exact Nat.le_refl _
   ·simp only[List.length_nil,Nat.zero_add,List.nil_append,Array.toList_append];exact List.take_left' (by simpa using fm)
 ·refine⟨fun hle=>?_,fun hlt=>⟨_,hsl.gB,fun c' hc=>?_⟩⟩
  ·have hle:l.length+m.length<=c:=hle;have aaV:(l.length+m.length)*k<=c*k:=Nat.mul_le_mul_right k hle;rw[Nat.add_mul]at aaV;refine⟨hb.jl _ _ _ (Nc h1c m) (by simp only[List.size_toArray,fm,Nat.zero_add];omega),?_⟩;have hB:=hb.put 0 (l.length*k) (m.flatMap enc).toArray;refine hK _ _ (ct.bl hB (by simp) hle ?_ ?_) ((af.refl _ _).put rfl _ _ (.inl rfl)) (fun k h=>.inl h) (bk.bl hB ?_ ?_ g1)
   ·rw[j9 (by simp only[Nat.zero_add,fm];omega)];exact g2
   ·unfold nJ;rw[Nat.zero_add,g3,List.flatMap_append];exact List.take_left' V4
   ·unfold nJ;rw[Nat.zero_add,g3,List.append_assoc];exact List.take_left' fl
   ·rw[j9 (by simp only[Nat.zero_add,fm];omega)];exact Nat.le_trans (Nat.mul_le_mul_right k g1) g2
  ·have hB:=Bl.cH H ((l.flatMap enc).toArray++(m.flatMap enc).toArray++rep z ((c' -(l.length+m.length))*z.size)) T;refine hK _ _ (ct.bl hB (by simp) hc ?_ ?_) ((af.refl _ _).push _) (fun k h=>.inr (Nat.le_of_eq h.symm)) (hsl.ai ((af.refl _ _).push _))
   ·simp only[rep,hz,Array.toList_append,List.length_append,fm,fl,List.length_map,Array.toList_map,Array.length_toList,Array.size_range];rw[<-Nat.add_mul,<-Nat.add_mul,Nat.add_sub_of_le hc];exact Nat.le_refl _
   ·rw[Array.toList_append,Array.toList_append,List.flatMap_append];exact List.take_left' V4
theorem Ey {T:TypeId} {bytes:Nat} {z:Array Value} {s x:Value} {H:Hp} {K:Value->Hp->Prop} {l m:List α} (hk:∀x,(enc x).length=k) (h1c:∀x,∀v∈enc x,v.oneCell'=true) (hs:ct enc k H s l) (hx:bk enc k H x m)
  (hz:z.size=k) (h1:l.length+m.length<=maxLen) (h2:(l.length+m.length)*bytes<=140737488355328)
  (hK:∀v' H',ct enc k H' v' (l++m)->af (ay s) H H'->(∀q,ay v' q->ay s q\/H.size<=q)->K v' H'):jy false T k bytes z s x H K:=
 St hk h1c hs hx hz h1 h2 fun v' H' a b c _=>hK v' H' a b c
theorem nS {T:TypeId} {bytes:Nat} {z:Array Value} {s x:Value} {H:Hp} {K:Value->Hp->Prop} {l m:List α} (n:Nat) (hk:∀x,(enc x).length=k) (h1c:∀x,∀v∈enc x,v.oneCell'=true) (hs:ct enc k H s l) (hn:∀q,ay s q->n<=q) (hH:n<=H.size) (hx:bk enc k H x m)
  (hz:z.size=k) (hb:bytes<=64) (h1:l.length+m.length<=1000000000)
  (hK:∀v' H',ct enc k H' v' (l++m)->(∀q,ay v' q->n<=q)->af (fun q=>n<=q) H H'->K v' H'):jy false T k bytes z s x H K:=
 Ey hk h1c hs hx hz (by unfold maxLen;omega) (Nat.le_trans (Nat.mul_le_mul h1 hb) (by omega)) fun v' H' h1 h2 h3=>hK v' H' h1 (fun q hq=>by rcases h3 q hq with h|h;exact hn q h;omega) (h2.mono fun q _ hq=>hn q hq)
end
def pE (p:Int×Int):List Value:=[.int .i64 p.1,.int .i64 p.2]
theorem iX (p:Int×Int):(pE p).length=2:=rfl
theorem jD (p:Int×Int):∀v∈pE p,v.oneCell'=true:=by
 intro v hv;simp[pE]at hv;rcases hv with rfl|rfl<;>rfl
abbrev nT:=bk pE 2
abbrev vq:=ct pE 2
end Go.Mg
