/- Part of the proof of EngineAdaptsCardSaid: a lemma text of ours, over the kit alone. No conditions. -/
import Derived.Test.YtoclemmcphgikaaGreatDoorMgLoop
namespace Go.Mg
open Go Go.RowKit
def Bl (H:Hp) (b:Nat) (l:List Value):Prop:=∃T,H[b]?=some (.cells l.toArray T (0,0))
variable {H A B C H':Hp} {b:Nat} {l:List Value} {p:Addr} {W W':Nat->Prop}
theorem Bl.lt (h:Bl H b l):b<H.size:=by
 obtain⟨T,h⟩:=h;exact(Array.getElem?_eq_some_iff.1 h).1
theorem Bl.cell (h:Bl H b l) (o:Nat):cell H ⟨b,o,none⟩=l[o]?:=by
 obtain⟨T,h⟩:=h;simp[Mg.cell,h]
theorem Bl.frz (h:Bl H b l) (o:Nat):frz H ⟨b,o,none⟩=false:=by
 obtain⟨T,h⟩:=h;simp[Mg.frz,h]
theorem Bl.setc (h:Bl H b l) (o:Nat) (v:Value):Bl (Mg.setc H ⟨b,o,none⟩ v) b (l.set o v):=by
 obtain⟨T,h⟩:=h
 refine⟨T,?_⟩
 rw[setc_known (p:=⟨b,o,none⟩) rfl h,getElem?_setKnown h]
 simp
theorem getElem?_setc_ne {v:Value} (hb:b≠p.block):(setc H p v)[b]?=H[b]?:=by
 unfold setc
 rw[Array.getElem?_modify,if_neg (fun e=>hb e.symm)]
theorem Bl.setc_ne (h:Bl H b l) (v:Value) (hb:b≠p.block):Bl (Mg.setc H p v) b l:=by
 obtain⟨T,h⟩:=h;exact⟨T,by rw[getElem?_setc_ne hb];exact h⟩
theorem getElem?_push_lt' {o:Obj} (hb:b<H.size):(H.push o)[b]?=H[b]?:=by
 rw[Array.getElem?_push,if_neg (by omega)]
theorem Bl.push (h:Bl H b l) (o:Obj):Bl (H.push o) b l:=by
 have:=h.lt
 obtain⟨T,h⟩:=h;exact⟨T,by rw[getElem?_push_lt' this];exact h⟩
theorem Bl.new (H:Hp) (l:List Value) (T:TypeId):Bl (H.push (.cells l.toArray T)) H.size l:=⟨T,by simp⟩
theorem Bl.new' (H:Hp) (C:Array Value) (T:TypeId):Bl (H.push (.cells C T)) H.size C.toList:=⟨T,by simp⟩
theorem size_setc (H:Hp) (p:Addr) (v:Value):(setc H p v).size=H.size:=by simp[setc]
theorem Bl.okSt (h:Bl H b l) {o:Nat} (ho:o<l.length):(Mg.cell H ⟨b,o,none⟩).isSome=true/\Mg.frz H ⟨b,o,none⟩=false:=by
 rw[h.cell,h.frz];simp[ho]
structure Keep (W:Nat->Prop) (H H':Hp):Prop where
 size:H.size<=H'.size
 at_:∀k,k<H.size->¬W k->H'[k]?=H[k]?
theorem Keep.refl (W:Nat->Prop) (H:Hp):Keep W H H:=⟨Nat.le_refl _,fun _ _ _=>rfl⟩
theorem Keep.trans (h:Keep W A B) (k:Keep W B C):Keep W A C:=
 ⟨Nat.le_trans h.size k.size,fun i hi hw=>(k.at_ i (Nat.lt_of_lt_of_le hi h.size) hw).trans (h.at_ i hi hw)⟩
theorem Keep.push (h:Keep W A B) (o:Obj):Keep W A (B.push o):=
 h.trans ⟨by simp,fun k hk _=>getElem?_push_lt' hk⟩
theorem Keep.setc (h:Keep W A B) (v:Value) (hp:W p.block\/A.size<=p.block):Keep W A (Mg.setc B p v):=by
 refine⟨by rw[size_setc];exact h.size,fun k hk hw=>?_⟩
 rw[getElem?_setc_ne (by rintro rfl;rcases hp with hp|hp;exact hw hp;omega)]
 exact h.at_ k hk hw
theorem Keep.bl (h:Keep W H H') (hb:Bl H b l) (hw:¬W b):Bl H' b l:=by
 have:=hb.lt
 obtain⟨T,hb⟩:=hb;exact⟨T,by rw[h.at_ b this hw];exact hb⟩
theorem Keep.mono (h:Keep W H H') (hw:∀k,k<H.size->W k->W' k):Keep W' H H':=
 ⟨h.size,fun k hk hn=>h.at_ k hk (fun a=>hn (hw k hk a))⟩
theorem Keep.trans' (h:Keep W A B) (k:Keep W' B C) (hw:∀i,i<A.size->W' i->W i):Keep W A C:=
 ⟨Nat.le_trans h.size k.size,fun i hi hn=>(k.at_ i (Nat.lt_of_lt_of_le hi h.size) (fun a=>hn (hw i hi a))).trans (h.at_ i hi hn)⟩
@[go_sem] theorem ldO_ptr (H:Hp) (a:Addr):ldO H (.pointer (some a))=cell H a:=rfl
@[go_sem] theorem add_mk (b o n:Nat):Addr.add ⟨b,o,none⟩ n=⟨b,o+n,none⟩:=add_off _ rfl n
@[go_sem] theorem tn_cast (a:Nat):((a:Int)).toNat=a:=by simp
@[go_sem] theorem tn_add (a n:Nat):((a:Int)+(no_index (OfNat.ofNat n):Int)).toNat=a+OfNat.ofNat n:=by
 show((a:Int)+((n:Nat):Int)).toNat=a+n
 omega
end Go.Mg
namespace Go.Mg
structure Ids where
 f:Nat->Nat
 t:Nat->Nat
 g:Nat->Nat
end Go.Mg
