/- Part of the proof of EngineAdaptsCardSaid: a lemma text of ours, over the kit alone. No conditions. -/
import Derived.Test.YtoclemmcphgikaaGreatDoorMgTvk
namespace Go.Mg
open Go Go.RowKit
@[go_sem] theorem slV_slice (a:Option Addr) (l c size:Nat) (lo hi:Option Int):slV (.slice a l c) size lo hi=.slice (if c=loN lo then a else a.map (·.add (loN lo*size))) (hiN l hi -loN lo) (c -loN lo):=rfl
@[go_sem] theorem slaV_ptr (a:Addr) (n size:Nat) (lo hi:Option Int):slaV (.pointer (some a)) n size lo hi=.slice (some (if n=loN lo then a else a.add (loN lo*size))) (hiN n hi -loN lo) (n -loN lo):=rfl
@[go_sem] theorem oi_some (r:A->Value) (x:A):oi r (some x)=some (r x).i:=rfl
@[go_sem] theorem oi_none (r:A->Value):oi r none=none:=rfl
@[go_sem] theorem slmV_slice (a:Option Addr) (n c size l h m:Nat):slmV (.slice a n c) size l h m=.slice (if m=l then a else a.map (·.add (l*size))) (h -l) (m -l):=rfl
attribute [go_sem] Option.map_some Option.map_none Option.getD_none Int.toNat_zero Nat.sub_zero Nat.add_zero
@[go_sem] theorem tn_ofNat (n:Nat):((no_index (OfNat.ofNat n):Int)).toNat=OfNat.ofNat n:=by
 show((n:Nat):Int).toNat=n
 simp
def wrL (l:List Value) (off:Nat) (xs:List Value):List Value:=l.take off++xs++l.drop (off+xs.length)
theorem wrL_nil (l:List Value) (off:Nat):wrL l off []=l:=by simp[wrL]
variable {l xs:List Value} {off b o n c k:Nat} {H A B H':Hp} {p:Addr} {W:Nat->Prop} {T:TypeId} {v:Value} {z:Array Value} {P:Program} {d:D} {r:List O} {e:Env} {f:Fr} {Q:Fr->Hp->Prop}
theorem wrL_len (h:off+xs.length<=l.length):(wrL l off xs).length=l.length:=by
 simp[wrL];omega
theorem wrL_all (l xs:List Value) (h:xs.length=l.length):wrL l 0 xs=xs:=by simp[wrL,h]
theorem getElem?_stNA_ne (hb:b≠p.block):(stNA H p xs)[b]?=H[b]?:=by
 unfold stNA
 rw[Array.getElem?_modify,if_neg (fun e=>hb e.symm)]
theorem size_stNA (H:Hp) (p:Addr) (xs:List Value):(stNA H p xs).size=H.size:=by simp[stNA]
theorem Bl.stNA (h:Bl H b l) (o:Nat) (xs:List Value):Bl (Mg.stNA H ⟨b,o,none⟩ xs) b (wrL l o xs):=by
 obtain⟨T,h⟩:=h
 refine⟨T,?_⟩
 rw[stNA_known (p:=⟨b,o,none⟩) h,getElem?_setKnown h]
 simp[wrA,wrL]
theorem Keep.stNA (h:Keep W A B) (xs:List Value) (hp:W p.block\/A.size<=p.block):Keep W A (Mg.stNA B p xs):=by
 refine⟨by rw[size_stNA];exact h.size,fun k hk hw=>?_⟩
 rw[getElem?_stNA_ne (by rintro rfl;rcases hp with hp|hp;exact hw hp;omega)]
 exact h.at_ k hk hw
theorem Bl.okNA (h:Bl H b l) (hn:o+n<=l.length):Mg.okNA H ⟨b,o,none⟩ n:=by
 have h':=h
 obtain⟨T,h⟩:=h
 exact⟨rfl,_,_,_,h,by simpa using hn,fun i _=>h'.frz _⟩
theorem Bl.ldNA (h:Bl H b l) (hn:o+n<=l.length):Mg.ldNA H ⟨b,o,none⟩ n=some ((l.drop o).take n).toArray:=by
 obtain⟨T,h⟩:=h
 unfold Mg.ldNA
 simp only[h,Option.isSome_none,Bool.false_eq_true,if_false,List.size_toArray,hn,if_true]
 simp[List.extract_eq_take_drop]
theorem Bl.ldNO (h:Bl H b l) (n:Nat) (hn:n=l.length):Mg.ldNO H (.pointer (some ⟨b,0,none⟩)) n=some l.toArray:=by
 subst hn
 have:=h.ldNA (o:=0) (n:=l.length) (by omega)
 simpa[Mg.ldNO]using this
def SlR (H:Hp) (v:Value) (l:List Value):Prop:=
 (∃a c,v=.slice a 0 c/\l=[])\/∃b o c,l≠[]/\v=.slice (some ⟨b,o,none⟩) l.length c/\l.length<=c/\∃C T z,H[b]?=some (.cells C T z)/\o+l.length<=C.size/\(C.toList.drop o).take l.length=l
def slB:Value->Nat->Prop
 |.slice (some p) n _,k=>k=p.block/\n≠0
 |_,_=>False
theorem SlR.nil (H:Hp) (a:Option Addr) (c:Nat):SlR H (.slice a 0 c) []:=.inl ⟨a,c,rfl,rfl⟩
theorem SlR.at_ {C:Array Value} {z:Nat×Nat} (hc:l.length<=c) (h:H[b]?=some (.cells C T z)) (h1:o+l.length<=C.size) (h2:(C.toList.drop o).take l.length=l):
  SlR H (.slice (some ⟨b,o,none⟩) l.length c) l:=by
 by_cases hl:l=[]
 ·subst hl;exact SlR.nil _ _ _
 ·exact .inr ⟨b,o,c,hl,rfl,hc,C,T,z,h,h1,h2⟩
theorem SlR.congr (h:SlR H v l) (hk:∀k,slB v k->H'[k]?=H[k]?):SlR H' v l:=by
 rcases h with h|⟨b,o,c,hl,rfl,h0,C,T,z,h1,h2,h3⟩
 ·exact .inl h
 ·exact .inr ⟨b,o,c,hl,rfl,h0,C,T,z,by rw[hk b ⟨rfl,by simpa using hl⟩];exact h1,h2,h3⟩
theorem SlR.old (h:SlR H v l) (hk:slB v k):k<H.size:=by
 rcases h with⟨a,c,rfl,_⟩|⟨b,o,c,_,rfl,h0,C,T,z,h1,h2,h3⟩
 ·cases a<;>simp[slB]at hk
 ·obtain⟨rfl,_⟩:=hk;exact(Array.getElem?_eq_some_iff.1 h1).1
theorem SlR.keep (h:SlR H v l) (hk:Keep W H H') (hw:∀k,slB v k->¬W k):SlR H' v l:=
 h.congr fun k hb=>hk.at_ k (h.old hb) (hw k hb)
theorem SlR.isSl (h:SlR H v l):Mg.isSl v:=by
 rcases h with⟨a,c,rfl,_⟩|⟨b,o,c,_,rfl,_⟩<;>trivial
theorem SlR.len (h:SlR H v l):lenV v=l.length:=by
 rcases h with⟨a,c,rfl,rfl⟩|⟨b,o,c,_,rfl,_⟩<;>rfl
theorem SlR.lenS (h:SlR H v l):Mg.lenS v=l.length:=by
 rcases h with⟨a,c,rfl,rfl⟩|⟨b,o,c,_,rfl,_⟩<;>rfl
theorem srcN_0 (H:Hp) (a:Option Addr) (n c:Nat):Mg.srcN H (.slice a n c) 0=some #[]:=by
 cases a<;>simp[Mg.srcN]
theorem SlR.srcN (h:SlR H v l) (hk:k<=l.length):Mg.srcN H v k=some (l.take k).toArray:=by
 rcases h with⟨a,c,rfl,rfl⟩|⟨b,o,c,_,rfl,h0,C,T,z,h1,h2,h3⟩
 ·have:k=0:=by simpa using hk
  subst this;rw[srcN_0];simp
 ·show(if k=0 then some #[]else Mg.ldNA H ⟨b,o,none⟩ k)=_
  split
  ·rename_i hk0;subst hk0;simp
  ·simp only[Mg.ldNA,Option.isSome_none,Bool.false_eq_true,if_false,h1]
   rw[if_pos (by omega)]
   congr 1
   apply Array.ext'
   simp only[Array.toList_extract,List.extract_eq_take_drop,Nat.add_sub_cancel_left]
   rw[<-h3,List.take_take,Nat.min_eq_left hk]
theorem SlR.bl (h:Bl H b l) (o n c:Nat) (hc:n<=c) (hn:o+n<=l.length):SlR H (.slice (some ⟨b,o,none⟩) n c) ((l.drop o).take n):=by
 obtain⟨T,h⟩:=h
 have e:((l.drop o).take n).length=n:=by simp;omega
 have:=SlR.at_ (l:=(l.drop o).take n) (o:=o) (c:=c) (by rw[e];exact hc) h (by rw[e];simpa using hn) (by rw[e])
 rwa [e]at this
theorem SlR.drop (h:SlR H v l) (hn:n<=l.length):SlR H (slV v 1 (some (n:Int)) none) (l.drop n):=by
 rcases h with⟨a,c,rfl,rfl⟩|⟨b,o,c,hne,rfl,h0,C,T,z,h1,h2,h3⟩
 ·have:n=0:=by simpa using hn
  subst this
  exact .inl ⟨_,c -0,rfl,by simp⟩
 ·have hl:(l.drop n).length=l.length -n:=by simp
  by_cases hc:c=n
  ·have:=SlR.at_ (l:=l.drop n) (o:=o) (c:=c -n) (by omega) h1 (by omega) (by
    rw[hl]
    conv=>rhs;rw[<-h3]
    rw[List.drop_take]
    have:l.length -n=0:=by omega
    simp[this])
   rw[hl]at this
   simp[slV,loN,hiN,hc]at this⊢
   exact this
  ·have:=SlR.at_ (l:=l.drop n) (o:=o+n) (c:=c -n) (by omega) h1 (by omega) (by
    rw[hl]
    conv=>rhs;rw[<-h3]
    rw[List.drop_take,List.drop_drop])
   rw[hl]at this
   simp[slV,loN,hiN,hc,add_off]at this⊢
   exact this
theorem SlR.mk (h:SlR H v l):∃a c,v=.slice a l.length c/\l.length<=c:=by
 rcases h with⟨a,c,rfl,rfl⟩|⟨b,o,c,_,rfl,h0,_⟩
 ·exact⟨a,c,rfl,Nat.zero_le _⟩
 ·exact⟨_,c,rfl,h0⟩
theorem slB_take {z:Nat} (hn:n<=lenV v) (h:slB (slV v z none (some (n:Int))) k):slB v k:=by
 cases v with
 |slice a m c=>
  cases a with
  |none=>simp[slV,slB]at h
  |some p=>
   simp only[lenV]at hn
   simp only[slV]at h
   split at h
   ·exact⟨h.1,by have:=h.2;simp only[hiN,Int.toNat_natCast]at this;omega⟩
   ·simp only[Option.map_some,slB,Addr.add]at h
    have:(p.add (loN none*z)).block=p.block:=by unfold Addr.add;split<;>rfl
    exact⟨h.1.trans this,by have:=h.2;simp only[hiN,Int.toNat_natCast]at this;omega⟩
 |_=>exact h
theorem SlR.take (h:SlR H v l) (hn:n<=l.length):SlR H (slV v 1 none (some (n:Int))) (l.take n):=by
 rcases h with⟨a,c,rfl,rfl⟩|⟨b,o,c,hne,rfl,h0,C,T,z,h1,h2,h3⟩
 ·have:n=0:=by simpa using hn
  subst this
  exact .inl ⟨_,c -0,rfl,by simp⟩
 ·have hl:(l.take n).length=n:=by simp;omega
  have:=SlR.at_ (l:=l.take n) (o:=o) (c:=c) (by omega) h1 (by omega) (by
   rw[hl]
   conv=>rhs;rw[<-h3]
   rw[List.take_take,Nat.min_eq_left hn])
  rw[hl]at this
  simp[slV,loN,hiN,add_off]at this⊢
  exact this
theorem SlR.cap (h:SlR H v l):l.length<=capV v:=by
 rcases h with⟨a,c,rfl,rfl⟩|⟨b,o,c,_,rfl,h0,_⟩
 ·exact Nat.zero_le _
 ·exact h0
theorem Bl.put (h:Bl H b l) (o off:Nat) (xs:Array Value):Bl (putH H (some ⟨b,o,none⟩) off xs) b (wrL l (o+off) xs.toList):=by
 unfold putH
 simp only
 split
 ·rename_i h0
  have:xs.toList=[]:=by apply List.eq_nil_of_length_eq_zero;simpa using h0
  rw[this,wrL_nil];exact h
 ·rw[add_off _ rfl];exact h.stNA _ _
theorem getElem?_putH_ne {xs:Array Value} (hb:b≠p.block) (hs:p.spot=none):(putH H (some p) off xs)[b]?=H[b]?:=by
 unfold putH
 simp only
 split
 ·rfl
 ·rw[add_off _ hs];exact getElem?_stNA_ne hb
theorem size_putH (H:Hp) (a:Option Addr) (off:Nat) (xs:Array Value):(putH H a off xs).size=H.size:=by
 unfold putH
 split
 ·rfl
 ·split
  ·rfl
  ·exact size_stNA _ _ _
theorem Keep.put (h:Keep W A B) (hs:p.spot=none) (off:Nat) (xs:Array Value) (hp:W p.block\/A.size<=p.block):Keep W A (putH B (some p) off xs):=by
 refine⟨by rw[size_putH];exact h.size,fun k hk hw=>?_⟩
 rw[getElem?_putH_ne (by rintro rfl;rcases hp with hp|hp;exact hw hp;omega) hs]
 exact h.at_ k hk hw
theorem Bl.okPut (h:Bl H b l) (o off:Nat) (xs:Array Value) (h1:all1 xs) (hn:o+off+xs.size<=l.length):okPut H (some ⟨b,o,none⟩) off xs:=by
 refine⟨h1,.inr ?_⟩
 rw[add_off _ rfl];exact h.okNA hn
def w8 (l:List UInt8):List Value:=l.map fun x=>.int .u8 x.toNat
theorem w8_len (l:List UInt8):(w8 l).length=l.length:=by simp[w8]
theorem w8_get (l:List UInt8) (i:Nat) (h:i<l.length):(w8 l)[i]?=some (.int .u8 (l.getD i 0).toNat):=by
 simp[w8,h]
theorem kont_new
  (h:∀H' b,b=H.size->H'.size=H.size+1->Bl H' b z.toList->Keep (fun _=>False) H H'->ops P r (d.env (.pointer (some ⟨b,0,none⟩)) e) (d.fr (.pointer (some ⟨b,0,none⟩)) f) H' Q):
  kont P d r e f Q (.pointer (some ⟨H.size,0,none⟩)) (H.push (.cells z T)):=
 h _ _ rfl (by simp) (Bl.new' _ _ _) ((Keep.refl _ _).push _)
theorem rep_one (v:Value) (n:Nat):(rep #[v] n).toList=List.replicate n v:=by
 unfold rep
 simp[Nat.mod_one,List.map_const']
attribute [go_sem] List.forall_mem_cons List.flatMap_cons List.flatMap_nil List.size_toArray List.length_cons List.length_nil List.not_mem_nil false_imp_iff implies_true List.append_nil List.cons_append List.nil_append
theorem kont_news {m:Nat}
  (h:∀H' b,b=H.size->H'.size=H.size+1->Bl H' b z.toList->Keep (fun _=>False) H H'->ops P r (d.env (.slice (some ⟨b,0,none⟩) m c) e) (d.fr (.slice (some ⟨b,0,none⟩) m c) f) H' Q):
  kont P d r e f Q (.slice (some ⟨H.size,0,none⟩) m c) (H.push (.cells z T)):=h _ _ rfl (by simp) (Bl.new' _ _ _) ((Keep.refl _ _).push _)
theorem Bl.srcN (h:Bl H b l) (o n c k:Nat) (hk:o+k<=l.length):Mg.srcN H (.slice (some ⟨b,o,none⟩) n c) k=some ((l.drop o).take k).toArray:=by
 show(if k=0 then some #[]else Mg.ldNA H ⟨b,o,none⟩ k)=_
 split
 ·rename_i h0;subst h0;simp
 ·exact h.ldNA hk
theorem Bl.bytesIn (h:Bl H b l) (o n c:Nat) (hk:o+n<=l.length):Mg.bytesIn H (.slice (some ⟨b,o,none⟩) n c)=some ((l.drop o).take n).toArray:=by
 show(if n=0 then some #[]else Mg.ldNA H ⟨b,o,none⟩ n)=_
 split
 ·rename_i h0;subst h0;simp
 ·exact h.ldNA hk
theorem SlR.bytesIn (h:SlR H v l):Mg.bytesIn H v=some l.toArray:=by
 rcases h with⟨a,c,rfl,rfl⟩|⟨b,o,c,hl,rfl,h0,C,T,z,h1,h2,h3⟩
 ·cases a<;>rfl
 ·show(if l.length=0 then some #[]else Mg.ldNA H ⟨b,o,none⟩ l.length)=_
  rw[if_neg (by simpa using hl)]
  simp only[Mg.ldNA,Option.isSome_none,Bool.false_eq_true,if_false,h1]
  rw[if_pos h2]
  congr 1
  apply Array.ext'
  simp only[Array.toList_extract,List.extract_eq_take_drop,Nat.add_sub_cancel_left]
  exact h3
theorem toBA_w8 (l:List UInt8):toBA (w8 l).toArray=⟨l.toArray⟩:=by
 have:(fun x:UInt8=>UInt8.ofNat (Value.int .u8 (x.toNat:Int)).i.toNat)=id:=by funext x;simp[Value.i]
 simp only[toBA,w8,List.map_toArray,List.map_map,Function.comp_def]
 rw[this];simp
theorem okB2s_w8 {l:List UInt8} (h:bytesIn H v=some (w8 l).toArray):okB2s H v:=by
 refine⟨_,h,fun x hx=>?_⟩
 simp[w8]at hx
 obtain⟨y,_,rfl⟩:=hx;rfl
attribute [go_sem] true_imp_iff Bool.not_true Bool.not_false
@[go_sem] theorem b_beq_t (b:Bool):(b==true)=b:=by cases b<;>rfl
@[go_sem] theorem f_bne (b:Bool):(false !=b)=b:=by cases b<;>rfl
@[go_sem] theorem t_bne (b:Bool):(true !=b)=!b:=by cases b<;>rfl
@[go_sem] theorem b_beq_f (b:Bool):(b==false)=!b:=by cases b<;>rfl
@[go_sem] theorem b_bne_t (b:Bool):(b !=true)=!b:=by cases b<;>rfl
@[go_sem] theorem b_bne_f (b:Bool):(b !=false)=b:=by cases b<;>rfl
@[go_sem] theorem sizeB_push (H:Hp) (z:Array Value) (T:TypeId) (m:Nat×Nat):sizeB (H.push (.cells z T m)) H.size=some z.size:=by simp[sizeB]
theorem mkH_new (H:Hp) (z:Array Value) (T:TypeId) (n:Nat):Keep (fun _=>False) H (mkH (H.push (.cells z T)) H.size n)/\(mkH (H.push (.cells z T)) H.size n).size=H.size+1∧
  ∀c,z.size<=c->SlR (mkH (H.push (.cells z T)) H.size n) (.slice (some ⟨H.size,0,none⟩) z.size c) z.toList:=by
 have hs:(mkH (H.push (.cells z T)) H.size n).size=H.size+1:=by simp[mkH]
 refine⟨⟨by omega,fun k hk _=>?_⟩,hs,fun c hc=>?_⟩
 ·unfold mkH
  rw[Array.getElem?_modify,if_neg (by omega)]
  exact getElem?_push_lt' hk
 ·have hm:(mkH (H.push (.cells z T)) H.size n)[H.size]?=some (.cells z T (n,n+1)):=by
   unfold mkH
   rw[Array.getElem?_modify,if_pos rfl]
   simp
  have:=SlR.at_ (l:=z.toList) (o:=0) (c:=c) (by simpa using hc) hm (by simp) (by rw[List.drop_zero,List.take_of_length_le (Nat.le_refl _)])
  simpa using this
theorem Keep.none (h:Keep W A B) (hw:∀k,k<A.size->¬W k):Keep (fun _=>False) A B:=
 h.mono (fun k hk hW=>hw k hk hW)
theorem Keep.any (h:Keep (fun _=>False) A B):Keep W A B:=h.mono (fun _ _ h=>h.elim)
theorem stNH_ptr (H:Hp) (a:Addr) (xs:List Value):stNH H (.pointer (some a)) xs=stNA H a xs:=rfl
theorem okN_ptr (H:Hp) (a:Addr) (n:Nat):okN H (.pointer (some a)) n=okNA H a n:=rfl
theorem ldNO_ptr (H:Hp) (a:Addr) (n:Nat):ldNO H (.pointer (some a)) n=ldNA H a n:=rfl
theorem cells_agg (C:Array Value):(Value.agg C).cells=C:=rfl
@[go_sem] theorem arr1_0 (a:Value):(#[a]:Array Value)[0]?=some a:=rfl
@[go_sem] theorem arr2_0 (a b:Value):(#[a,b]:Array Value)[0]?=some a:=rfl
@[go_sem] theorem arr2_1 (a b:Value):(#[a,b]:Array Value)[1]?=some b:=rfl
@[go_sem] theorem arr3_0 (a b c:Value):(#[a,b,c]:Array Value)[0]?=some a:=rfl
@[go_sem] theorem arr3_1 (a b c:Value):(#[a,b,c]:Array Value)[1]?=some b:=rfl
@[go_sem] theorem arr3_2 (a b c:Value):(#[a,b,c]:Array Value)[2]?=some c:=rfl
@[go_sem] theorem arr4_0 (a b c d:Value):(#[a,b,c,d]:Array Value)[0]?=some a:=rfl
@[go_sem] theorem arr4_1 (a b c d:Value):(#[a,b,c,d]:Array Value)[1]?=some b:=rfl
@[go_sem] theorem arr4_2 (a b c d:Value):(#[a,b,c,d]:Array Value)[2]?=some c:=rfl
@[go_sem] theorem arr4_3 (a b c d:Value):(#[a,b,c,d]:Array Value)[3]?=some d:=rfl
@[go_sem] theorem arr5_0 (a b c d e:Value):(#[a,b,c,d,e]:Array Value)[0]?=some a:=rfl
@[go_sem] theorem arr5_1 (a b c d e:Value):(#[a,b,c,d,e]:Array Value)[1]?=some b:=rfl
@[go_sem] theorem arr5_2 (a b c d e:Value):(#[a,b,c,d,e]:Array Value)[2]?=some c:=rfl
@[go_sem] theorem arr5_3 (a b c d e:Value):(#[a,b,c,d,e]:Array Value)[3]?=some d:=rfl
@[go_sem] theorem arr5_4 (a b c d e:Value):(#[a,b,c,d,e]:Array Value)[4]?=some e:=rfl
@[go_sem] theorem lst1_0 (a:Value): [a][0]?=some a:=rfl
@[go_sem] theorem lst2_0 (a b:Value): [a,b][0]?=some a:=rfl
@[go_sem] theorem lst2_1 (a b:Value): [a,b][1]?=some b:=rfl
@[go_sem] theorem lst3_0 (a b c:Value): [a,b,c][0]?=some a:=rfl
@[go_sem] theorem lst3_1 (a b c:Value): [a,b,c][1]?=some b:=rfl
@[go_sem] theorem lst3_2 (a b c:Value): [a,b,c][2]?=some c:=rfl
@[go_sem] theorem lst4_0 (a b c d:Value): [a,b,c,d][0]?=some a:=rfl
@[go_sem] theorem lst4_1 (a b c d:Value): [a,b,c,d][1]?=some b:=rfl
@[go_sem] theorem lst4_2 (a b c d:Value): [a,b,c,d][2]?=some c:=rfl
@[go_sem] theorem lst4_3 (a b c d:Value): [a,b,c,d][3]?=some d:=rfl
@[go_sem] theorem lst5_0 (a b c d e:Value): [a,b,c,d,e][0]?=some a:=rfl
@[go_sem] theorem lst5_1 (a b c d e:Value): [a,b,c,d,e][1]?=some b:=rfl
@[go_sem] theorem lst5_2 (a b c d e:Value): [a,b,c,d,e][2]?=some c:=rfl
@[go_sem] theorem lst5_3 (a b c d e:Value): [a,b,c,d,e][3]?=some d:=rfl
@[go_sem] theorem lst5_4 (a b c d e:Value): [a,b,c,d,e][4]?=some e:=rfl
@[go_sem] theorem lst6_0 (a b c d e f:Value): [a,b,c,d,e,f][0]?=some a:=rfl
@[go_sem] theorem lst6_1 (a b c d e f:Value): [a,b,c,d,e,f][1]?=some b:=rfl
@[go_sem] theorem lst6_2 (a b c d e f:Value): [a,b,c,d,e,f][2]?=some c:=rfl
@[go_sem] theorem lst6_3 (a b c d e f:Value): [a,b,c,d,e,f][3]?=some d:=rfl
@[go_sem] theorem lst6_4 (a b c d e f:Value): [a,b,c,d,e,f][4]?=some e:=rfl
@[go_sem] theorem lst6_5 (a b c d e f:Value): [a,b,c,d,e,f][5]?=some f:=rfl
@[go_sem] theorem lst7_0 (a b c d e f g:Value): [a,b,c,d,e,f,g][0]?=some a:=rfl
@[go_sem] theorem lst7_1 (a b c d e f g:Value): [a,b,c,d,e,f,g][1]?=some b:=rfl
@[go_sem] theorem lst7_2 (a b c d e f g:Value): [a,b,c,d,e,f,g][2]?=some c:=rfl
@[go_sem] theorem lst7_3 (a b c d e f g:Value): [a,b,c,d,e,f,g][3]?=some d:=rfl
@[go_sem] theorem lst7_4 (a b c d e f g:Value): [a,b,c,d,e,f,g][4]?=some e:=rfl
@[go_sem] theorem lst7_5 (a b c d e f g:Value): [a,b,c,d,e,f,g][5]?=some f:=rfl
@[go_sem] theorem lst7_6 (a b c d e f g:Value): [a,b,c,d,e,f,g][6]?=some g:=rfl
end Go.Mg
