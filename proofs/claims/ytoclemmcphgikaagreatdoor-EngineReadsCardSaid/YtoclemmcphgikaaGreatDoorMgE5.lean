/- Lemmas of ours. No conditions. -/
import Derived.Test.YtoclemmcphgikaaGreatDoorMgE4
import Derived.Test.YtoclemmcphgikaaGreatDoorMgX6
set_option linter.all false
namespace Go.Mg
abbrev BN:=List UInt8×Nat
def ic (x:BN):List UInt8:=dw x.1++du x.2
def ie (F:cf) (us:List BN):List UInt8:=dw (df F)++cC ic us
noncomputable def j7 (s:RS):BN×RS:=(((cO 256 s).1,(rdNum 256 (cO 256 s).2).1),(rdNum 256 (cO 256 s).2).2)
def rD (x:BN):Prop:=eo x.1/\x.1.length<=33/\(∀n,bH x.1 n=true->n<=256)/\x.2<=256
theorem acD:Mj j7 ic rD:=by
 rintro⟨m,u⟩ ⟨h1,h2,h3,h4⟩ r;simp only at h1 h2 h3 h4;unfold j7 ic;simp only;rw[List.append_assoc,JU h1 (by omega) h3];simp only;rw[mj h4 (by omega)]
theorem Ie {m:List UInt8} (hc:eo m) (h:∀n,bH m n=true->n<=256):m.length<=33:=by
 by_cases e:m=[]
 ·subst e;simp
 ·obtain⟨n,h1,h2,h3⟩:=hc.top e;have:=h n h1;omega
def rE (us:List BN):List (Nat->Bool):=us.map fun x=>bH x.1
def sq (us:List BN):List Int:=us.map fun x=>((x.2:Nat):Int)
structure rF (F:cf) (us:List BN):Prop where
 ok:nD F=true
 len:us.length=F.st.length
 uk:∀x∈us,rD x
 bad:∀x∈us,¬nH (bH x.1)
 ord:AU F.be (sq us)=true
 sol:(en (bW F (rE us)) (sq us)).isSome=true
variable {m:Nat} {F:cf}
theorem mK (h:HW F):0<(df F).length/\(df F).length<=10000:=by
 have h1:=h.stl F.st.length;have h2:=h.l3l 3;have h3:=h.mol F.mo.length;rw[List.take_length]at h1 h3;rw[show(L3 F).take 3=L3 F from List.take_length (l:=L3 F)]at h2;have e:0<(du F.st.length).length:=by simp[du,le7]
 rw[BL];simp only[cC,List.length_append]at h1 h2 h3⊢;omega
theorem tF {us:List BN} (hE:HW F) (hF:(df F).length<=100000) (hl:us.length<=10) (h:∀x∈us,rD x) (hm:(df F).length<=m) (hm2:m<=1000000) (r:List UInt8):
  bB m (ie F us++r,0)=(df F,(cC ic us++r,0))/\bR 10 j7 (cC ic us++r,0)=(us,(r,0)):=by
 unfold ie;rw[List.append_assoc,wC hm hm2];exact⟨rfl,jx acD h hl (by omega) r⟩
theorem rF.rd {us:List BN} (h:rF F us) (hm:(df F).length<=m) (hm2:m<=1000000) (r:List UInt8):
  bB m (ie F us++r,0)=(df F,(cC ic us++r,0))/\bR 10 j7 (cC ic us++r,0)=(us,(r,0)):=
 tF (gh h.ok) (by have:=(mK (gh h.ok)).2;omega) (by have:=h.len;have:=(de h.ok).lt;omega) h.uk hm hm2 r
theorem Es {G:cf} {us vs:List BN} (hF:nD F=true) (hG:nD G=true) (h1:us.length<=10) (h2:vs.length<=10) (h3:∀x∈us,rD x) (h4:∀x∈vs,rD x) (h:ie F us=ie G vs):F=G/\us=vs:=by
 have a:=(mK (gh hF)).2;have b:=(mK (gh hG)).2;obtain⟨x1,x2⟩:=tF (gh hF) (by omega) h1 h3 (m:=10000) a (by omega) [];obtain⟨y1,y2⟩:=tF (gh hG) (by omega) h2 h4 (m:=10000) b (by omega) [];rw[h,y1]at x1;simp only[Prod.mk.injEq,and_true]at x1;obtain⟨e1,e2⟩:=x1;rw[<-e2,y2]at x2;simp only[Prod.mk.injEq,and_true]at x2;exact⟨((wD (r:=[]) (t:=[]) (gh hG) (gh hF) (by rw[e1])).1).symm,x2.symm⟩
end Go.Mg
