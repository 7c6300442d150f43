/- Lemmas of ours. No conditions. -/
import Derived.Test.YtkfikjdbdfekfabDoorMgLoop
namespace Go.Mg
open Go Go.RowKit
def Bl (H:Hp) (b:Nat) (l:List Value):Prop:=∃T,H[b]?=some (.cells l.toArray T (0,0))
variable {H A B C H':Hp} {b:Nat} {l:List Value} {p:Addr} {W W':Nat->Prop}
theorem Bl.lt (h:Bl H b l):b<H.size:=by
 obtain⟨T,h⟩:=h;exact(Array.getElem?_eq_some_iff.1 h).1
theorem Bl.cell (h:Bl H b l) (o:Nat):cell H ⟨b,o,none⟩=l[o]?:=by
 obtain⟨T,h⟩:=h;simp[Mg.cell,h]
theorem Bl.cE (h:Bl H b l) (o:Nat):cE H ⟨b,o,none⟩=false:=by
 obtain⟨T,h⟩:=h;simp[Mg.cE,h]
theorem Bl.al (h:Bl H b l) (o:Nat) (v:Value):Bl (Mg.al H ⟨b,o,none⟩ v) b (l.set o v):=by
 obtain⟨T,h⟩:=h;refine⟨T,?_⟩;rw[ep (p:=⟨b,o,none⟩) rfl h,aG h];simp
theorem aW {v:Value} (hb:b≠p.block):(al H p v)[b]?=H[b]?:=by
 unfold al;rw[Array.getElem?_modify,if_neg (fun e=>hb e.symm)]
theorem Bl.aZ (h:Bl H b l) (v:Value) (hb:b≠p.block):Bl (Mg.al H p v) b l:=by
 obtain⟨T,h⟩:=h;exact⟨T,by rw[aW hb];exact h⟩
theorem aP {o:Obj} (hb:b<H.size):(H.push o)[b]?=H[b]?:=by
 rw[Array.getElem?_push,if_neg (by omega)]
theorem Bl.push (h:Bl H b l) (o:Obj):Bl (H.push o) b l:=by
 have:=h.lt;obtain⟨T,h⟩:=h;exact⟨T,by rw[aP this];exact h⟩
theorem Bl.new (H:Hp) (l:List Value) (T:TypeId):Bl (H.push (.cells l.toArray T)) H.size l:=⟨T,by simp⟩
theorem Bl.eL (H:Hp) (C:Array Value) (T:TypeId):Bl (H.push (.cells C T)) H.size C.toList:=⟨T,by simp⟩
theorem aX (H:Hp) (p:Addr) (v:Value):(al H p v).size=H.size:=by simp[al]
theorem Bl.nC (h:Bl H b l) {o:Nat} (ho:o<l.length):(Mg.cell H ⟨b,o,none⟩).isSome=true/\Mg.cE H ⟨b,o,none⟩=false:=by
 rw[h.cell,h.cE];simp[ho]
structure ae (W:Nat->Prop) (H H':Hp):Prop where
 size:H.size<=H'.size
 at_:∀k,k<H.size->¬W k->H'[k]?=H[k]?
theorem ae.refl (W:Nat->Prop) (H:Hp):ae W H H:=⟨Nat.le_refl _,fun _ _ _=>rfl⟩
theorem ae.trans (h:ae W A B) (k:ae W B C):ae W A C:=
 ⟨Nat.le_trans h.size k.size,fun i hi hw=>(k.at_ i (Nat.lt_of_lt_of_le hi h.size) hw).trans (h.at_ i hi hw)⟩
theorem ae.push (h:ae W A B) (o:Obj):ae W A (B.push o):=
 h.trans ⟨by simp,fun k hk _=>aP hk⟩
theorem ae.al (h:ae W A B) (v:Value) (hp:W p.block\/A.size<=p.block):ae W A (Mg.al B p v):=by
 refine⟨by rw[aX];exact h.size,fun k hk hw=>?_⟩;rw[aW (by rintro rfl;rcases hp with hp|hp;exact hw hp;omega)];exact h.at_ k hk hw
theorem ae.bl (h:ae W H H') (hb:Bl H b l) (hw:¬W b):Bl H' b l:=by
 have:=hb.lt;obtain⟨T,hb⟩:=hb;exact⟨T,by rw[h.at_ b this hw];exact hb⟩
theorem ae.mono (h:ae W H H') (hw:∀k,k<H.size->W k->W' k):ae W' H H':=
 ⟨h.size,fun k hk hn=>h.at_ k hk (fun a=>hn (hw k hk a))⟩
theorem ae.trans' (h:ae W A B) (k:ae W' B C) (hw:∀i,i<A.size->W' i->W i):ae W A C:=
 ⟨Nat.le_trans h.size k.size,fun i hi hn=>(k.at_ i (Nat.lt_of_lt_of_le hi h.size) (fun a=>hn (hw i hi a))).trans (h.at_ i hi hn)⟩
@[go_sem] theorem sj (H:Hp) (a:Addr):nx H (.pointer (some a))=cell H a:=rfl
@[go_sem] theorem tv (b o n:Nat):Addr.add ⟨b,o,none⟩ n=⟨b,o+n,none⟩:=bj _ rfl n
@[go_sem] theorem aq (a:Nat):((a:Int)).toNat=a:=by simp
@[go_sem] theorem tw (a n:Nat):((a:Int)+(no_index (OfNat.ofNat n):Int)).toNat=a+OfNat.ofNat n:=by
 show((a:Int)+((n:Nat):Int)).toNat=a+n
 omega
end Go.Mg
namespace Go.Mg
structure bh where
 f:Nat->Nat
 t:Nat->Nat
 g:Nat->Nat
end Go.Mg
