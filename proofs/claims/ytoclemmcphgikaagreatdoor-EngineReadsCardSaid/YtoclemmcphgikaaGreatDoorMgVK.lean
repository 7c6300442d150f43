/- Lemmas of ours. No conditions. -/
import Derived.Test.YtoclemmcphgikaaGreatDoorMgHArg
set_option linter.all false
set_option maxRecDepth 100000
namespace Go.Mg
open Go Go.RowKit
theorem VG {a b:List UInt64} (h:cN a=cN b):a=b:=by
 unfold cN at h;refine(List.map_inj_right fun x y e=>?_).1 h;simp only[Value.int.injEq,true_and]at e;exact UInt64.toNat_inj.1 (by omega)
variable {H:Hp}
theorem aO.VH {v:Value} {l m:List Value} (h:aO H v l) (k:aO H v m):l=m:=by
 have hl:l.length=m.length:=h.len.symm.trans k.len;rcases h with⟨a,c,rfl,rfl⟩|⟨b,o,c,h0,rfl,-,C,T,z,h1,-,h3⟩
 ·exact(List.eq_nil_of_length_eq_zero hl.symm).symm
 ·rcases k with⟨a',c',e,rfl⟩|⟨b',o',c',k0,e,-,C',T',z',k1,-,k3⟩
  ·exact List.eq_nil_of_length_eq_zero hl
  ·simp only[Value.slice.injEq,Option.some.injEq,Addr.mk.injEq,and_true]at e;obtain⟨⟨rfl,rfl⟩,-,rfl⟩:=e;rw[h1]at k1
   cases k1
   rw[<-h3,hl,k3]
theorem aQ.VH {x:Value} {p q:Nat->Bool} (h:aQ H x p) (k:aQ H x q) (n:Nat):p n=q n:=by
 obtain⟨v,W,rfl,hv⟩:=h;obtain⟨v',W',e,hw⟩:=k;simp only[Value.agg.injEq,Array.mk.injEq,List.cons.injEq,and_true]at e;subst e;rw[<-hv.is,<-hw.is,VG (hv.sl.VH hw.sl)]
end Go.Mg
namespace Go.Mg
open Go Go.RowKit
def VI (H:Hp) (x:MV) (a:tk):Prop:=x.1=a.1/\aQ H (.agg #[hZ x]) (bt a.2)
variable {H:Hp} {x:MV}
theorem VI.VH {a b:tk} (h:VI H x a) (k:VI H x b):a=b:=Prod.ext (h.1.symm.trans k.1) (qn fun n _=>h.2.VH k.2 n)
theorem iq.is {ms:List MV} {mo:List tk} (h:iq H ms mo) (hx:x∈ms):∃a,VI H x a:=by
 obtain⟨i,hi,rfl⟩:=List.getElem_of_mem hx;exact⟨_,h.at_ i hi (by rw[<-h.len];exact hi)⟩
end Go.Mg
