/- Lemmas of ours. No conditions. -/
import Derived.Test.YtkfikjdbdfekfabDoorMgK2
set_option linter.all false
namespace Go.Mg
open Go Go.RowKit
def o9 (p:List UInt8) (n:Nat):List UInt64:=iter n (fun st i=>aS st ((p.drop (136*i)).take 136)) (List.replicate 25 0)
def bz (p:List UInt8):List UInt64:=o9 p (p.length/136)
def aA (p:List UInt8):List UInt8:=p.drop (136*(p.length/136))
theorem nX (p:List UInt8) (n:Nat):(o9 p n).length=25:=by
 unfold o9;rw[aM (fun l k=>cu _ _)];simp
theorem eU (p:List UInt8):(bz p).length=25:=nX _ _
theorem cL (p:List UInt8):(aA p).length=p.length % 136:=by
 simp only[aA,List.length_drop];omega
theorem eV (p:List UInt8) (n:Nat):o9 p (n+1)=aS (o9 p n) ((p.drop (136*n)).take 136):=rfl
theorem gB (p x:List UInt8):∀n,136*n<=p.length->o9 (p++x) n=o9 p n
 |0,_=>by simp only[o9,iter]
 |n+1,h=>by
  have ih:=gB p x n (by omega);have e:((p++x).drop (136*n)).take 136=(p.drop (136*n)).take 136:=by
   rw[List.drop_append_of_le_length (by omega),List.take_append_of_le_length (by simp;omega)]
  rw[eV,eV,ih,e]
theorem mu (p x:List UInt8) (h:p.length % 136+x.length<136):bz (p++x)=bz p:=by
 have e:(p++x).length/136=p.length/136:=by simp;omega
 unfold bz;rw[e];exact gB _ _ _ (by omega)
theorem jf (p x:List UInt8) (h:p.length % 136+x.length<136):aA (p++x)=aA p++x:=by
 have e:(p++x).length/136=p.length/136:=by simp;omega
 unfold aA;rw[e,List.drop_append_of_le_length (by omega)]
theorem k9 (p x:List UInt8) (h:p.length % 136+x.length=136):bz (p++x)=aS (bz p) (aA p++x):=by
 have e:(p++x).length/136=p.length/136+1:=by simp;omega
 unfold bz;rw[e];have:=gB p x (p.length/136) (by omega);have e2:((p++x).drop (136*(p.length/136))).take 136=aA p++x:=by
  rw[List.drop_append_of_le_length (by omega),List.take_of_length_le (by simp;omega)];rfl
 rw[eV,this,e2]
theorem iI (p x:List UInt8) (h:p.length % 136+x.length=136):aA (p++x)=[]:=by
 apply List.eq_nil_of_length_eq_zero;rw[cL];simp;omega
def aH (st:List UInt64) (buf:List UInt8) (u t:Int):List Value:=bn st++(w8 buf++[.int .i64 u,.int .u64 t])
variable {st:List UInt64} {buf p:List UInt8} {u t:Int} {H:Hp} {b:Nat}
theorem lf (hs:st.length=25) (hb:buf.length=136) (i:Nat) (hi:i<136):(aH st buf u t)[25+i]?=some (.int .u8 (buf.getD i 0).toNat):=by
 have e:(bn st).length=25:=by rw[aQ,hs]
 have e2:(w8 buf).length=136:=by rw[af,hb]
 unfold aH;rw[List.getElem?_append_right (by omega),e,Nat.add_sub_cancel_left,List.getElem?_append_left (by omega)];exact bR _ _ (by omega)
theorem da (hs:st.length=25) (hb:buf.length=136):(aH st buf u t)[161]?=some (.int .i64 u):=by
 have e:(bn st).length=25:=by rw[aQ,hs]
 have e2:(w8 buf).length=136:=by rw[af,hb]
 unfold aH;rw[List.getElem?_append_right (by omega),e,List.getElem?_append_right (by omega),e2];rfl
theorem nY (hs:st.length=25) (hb:buf.length=136):(aH st buf u t)[162]?=some (.int .u64 t):=by
 have e:(bn st).length=25:=by rw[aQ,hs]
 have e2:(w8 buf).length=136:=by rw[af,hb]
 unfold aH;rw[List.getElem?_append_right (by omega),e,List.getElem?_append_right (by omega),e2];rfl
theorem dx (hs:st.length=25) (hb:buf.length=136):(aH st buf u t).length=163:=by
 simp[aH,aQ,af,hs,hb]
theorem eX (hs:st.length=25) (hb:buf.length=136) (u':Int):(aH st buf u t).set 161 (.int .i64 u')=aH st buf u' t:=by
 have e:(bn st).length=25:=by rw[aQ,hs]
 have e2:(w8 buf).length=136:=by rw[af,hb]
 unfold aH;rw[List.set_append_right _ _ (by omega),e,List.set_append_right _ _ (by omega),e2];rfl
theorem jg (hs:st.length=25) (hb:buf.length=136) (t':Int):(aH st buf u t).set 162 (.int .u64 t')=aH st buf u t':=by
 have e:(bn st).length=25:=by rw[aQ,hs]
 have e2:(w8 buf).length=136:=by rw[af,hb]
 unfold aH;rw[List.set_append_right _ _ (by omega),e,List.set_append_right _ _ (by omega),e2];rfl
def bA (buf:List UInt8) (o:Nat) (x:List UInt8):List UInt8:=buf.take o++x++buf.drop (o+x.length)
theorem eY {o:Nat} {x:List UInt8} (h:o+x.length<=buf.length):(bA buf o x).length=buf.length:=by
 simp[bA];omega
theorem pa (buf:List UInt8) (o:Nat) (x:List UInt8):fD (w8 buf) o (w8 x)=w8 (bA buf o x):=by
 simp[fD,bA,w8]
theorem fT (a b:List Value) (o:Nat) (x:List Value) (n:Nat) (hn:n=a.length):fD (a++b) (n+o) x=a++fD b o x:=by
 subst hn;simp[fD,List.take_append,List.drop_append];rw[List.take_of_length_le (by omega),List.drop_of_length_le (by omega)];simp[Nat.add_assoc]
theorem mw (a b:List Value) (o:Nat) (x:List Value) (h:o+x.length<=a.length):fD (a++b) o x=fD a o x++b:=by
 simp[fD,List.take_append,List.drop_append];have h1:o -a.length=0:=by omega
 have h2:o+x.length -a.length=0:=by omega
 simp[h1,h2]
theorem my (hs:st.length=25) (hb:buf.length=136) (o:Nat) (x:List UInt8) (h:o+x.length<=136):
  fD (aH st buf u t) (25+o) (w8 x)=aH st (bA buf o x) u t:=by
 unfold aH;rw[fT _ _ _ _ _ (by rw[aQ,hs]),mw _ _ _ _ (by rw[af,af];omega),pa]
def eZ (H:Hp) (b:Nat) (p:List UInt8) (tot:Int):Prop:=∃buf,buf.length=136/\buf.take (p.length % 136)=aA p/\Bl H b (aH (bz p) buf ((p.length % 136:Nat):Int) tot)
def iJ (H:Hp) (b:Nat) (p:List UInt8):Prop:=eZ H b p (UInt64.ofNat p.length).toNat
theorem eZ.ax {W:Nat->Prop} {H':Hp} (h:eZ H b p t) (hk:ae W H H') (hw:¬W b):eZ H' b p t:=by
 obtain⟨buf,h1,h2,h3⟩:=h;exact⟨buf,h1,h2,hk.bl h3 hw⟩
theorem eZ.lt (h:eZ H b p t):b<H.size:=by
 obtain⟨buf,h1,h2,h3⟩:=h;exact h3.lt
theorem lg (buf:List UInt8) (o:Nat) (x:List UInt8) (h:o+x.length<=buf.length):(bA buf o x).take (o+x.length)=buf.take o++x:=by
 unfold bA;rw[List.take_append_of_le_length (by simp;omega),List.take_of_length_le (by simp;omega)]
end Go.Mg
