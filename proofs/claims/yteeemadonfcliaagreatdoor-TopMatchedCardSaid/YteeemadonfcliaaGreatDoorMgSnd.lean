/- Lemmas of ours. No conditions. -/
import Derived.Test.YteeemadonfcliaaGreatDoorMgOps
namespace Go.Mg
open Go Go.RowKit
section
variable {P:Program} {o:Oper} {w:World} {ρ:Operand->Value}
theorem vM (op:BinOp) (t:TypeId) (x y:Operand) (k k':IntKind) (m n:Int):(eqGuard op t x y (.int k m) (.int k' n)).run P w=.ok () w:=by
 cases op<;>rfl
theorem vN (op:BinOp) (t:TypeId) (x y:Operand) (m n:ByteArray):(eqGuard op t x y (.string m) (.string n)).run P w=.ok () w:=by
 cases op<;>rfl
theorem se (op:BinOp) (t:TypeId) (x y:Operand) (m n:Bool):(eqGuard op t x y (.bool m) (.bool n)).run P w=.ok () w:=by
 cases op<;>rfl
theorem sf (op:BinOp) (t:TypeId) (x y:Operand) (u:TypeId) (hop:o.op=.binOp op t x y u) {v:Value}
  (hg:(eqGuard op t x y (ρ x) (ρ y)).run P w=.ok () w) (h:(binOp op t (ρ x) (ρ y)).run P w=.ok v w):
  (execOp ρ o).run P w=.ok (.value v) w:=by
 simp only[execOp,hop,Sem.run_bind,hg,Result.andThen,h,Sem.run_pure]
theorem Nt (op:BinOp) (hop:op=.add\/op=.sub\/op=.mul) (t:TypeId) (k:IntKind) (m n:Int):(binOp op t (.int k m) (.int k n)).run P w=.ok (.int k (k.wrap (Rv op m n))) w:=by
 rcases hop with rfl|rfl|rfl<;>simp[binOp,Op.intArith,Rv]
theorem Nu (op:BinOp) (hop:op=.quo\/op=.rem) (t:TypeId) (k:IntKind) (m n:Int) (hn:n≠0):(binOp op t (.int k m) (.int k n)).run P w=.ok (.int k (Us k op m n)) w:=by
 rcases hop with rfl|rfl<;>simp[binOp,Op.intDiv,Us,hn]
theorem Nv (op:BinOp) (hop:op=.and\/op=.or\/op=.xor\/op=.andNot) (t:TypeId) (k:IntKind) (m n:Int):(binOp op t (.int k m) (.int k n)).run P w=.ok (.int k (bits op k m n)) w:=by
 rcases hop with rfl|rfl|rfl|rfl<;>simp[binOp,Op.intBits,bits]
theorem Nw (op:BinOp) (hop:op=.shl\/op=.shr) (t:TypeId) (k k':IntKind) (m n:Int) (h0:0<=n) (h1:n<=k.bits):(binOp op t (.int k m) (.int k' n)).run P w=.ok (.int k (Rw k op m n)) w:=by
 rcases hop with rfl|rfl
 ·simp[binOp,shift_shl k k' m n h0 h1,Rw]
 ·simp[binOp,shift_shr k k' m n h0 h1,Rw]
theorem Nx (op:BinOp) (hop:op=.eql\/op=.neq\/op=.lss\/op=.leq\/op=.gtr\/op=.geq) (t:TypeId) (k:IntKind) (m n:Int):(binOp op t (.int k m) (.int k n)).run P w=.ok (.bool (Rx op m n)) w:=by
 rcases hop with rfl|rfl|rfl|rfl|rfl|rfl<;>simp[binOp,Op.intCmp,Rx]
theorem Ny (op:BinOp) (hop:op=.eql\/op=.neq\/op=.lss\/op=.leq\/op=.gtr\/op=.geq) (t:TypeId) (m n:ByteArray):(binOp op t (.string m) (.string n)).run P w=.ok (.bool (Ut op m n)) w:=by
 rcases hop with rfl|rfl|rfl|rfl|rfl|rfl<;>simp[binOp,Op.stringOp,Ut]
theorem EF (t:TypeId) (m n:ByteArray) (h:m.size+n.size<=maxLen):(binOp .add t (.string m) (.string n)).run P w=.ok (.string (m++n)) w:=by
 unfold maxLen at h;have:¬(((m.size+n.size:Nat):Int)>IntKind.i64.max):=by
  have:IntKind.i64.max=9223372036854775807:=by decide
  omega
 simp only[binOp,Op.stringOp,this,if_false,Sem.run_pure]
theorem sg (d:Nat) (t:TypeId) (ht:P.underlying t=some .bool) (m n:Bool):(Op.equalIn (d+1) t (.bool m) (.bool n)).run P w=.ok (m==n) w:=by
 simp only[Op.equalIn,Sem.run_bind,run_underlying ht,Result.andThen,Sem.run_pure]
theorem I0 {t:TypeId} {x y:Value} {b:Bool} (h:(Op.equal t x y).run P w=.ok b w):((do pure (.bool (←Op.equal t x y)):Sem Value)).run P w=.ok (.bool b) w:=by
 simp only[Sem.run_bind,h,Result.andThen,Sem.run_pure]
theorem I1 {t:TypeId} {x y:Value} {b:Bool} (h:(Op.equal t x y).run P w=.ok b w):((do pure (.bool (!(←Op.equal t x y))):Sem Value)).run P w=.ok (.bool (!b)) w:=by
 simp only[Sem.run_bind,h,Result.andThen,Sem.run_pure]
theorem I2 (op:BinOp) (hop:op=.eql\/op=.neq) (t:TypeId) (ht:P.underlying t=some .bool) (m n:Bool):(binOp op t (.bool m) (.bool n)).run P w=.ok (.bool ((match op with|.neq=>true|_=>false)!=(m==n))) w:=by
 have e:=fY (fun d=>sg (P:=P) (w:=w) (d+2) t ht m n);rcases hop with rfl|rfl
 ·exact(I0 e).trans (by simp)
 ·exact(I1 e).trans (by simp)
theorem kq {op:BinOp} {t:TypeId} {x y:Operand} {u:TypeId} (hop:o.op=.binOp op t x y u) {k k':IntKind} {m n:Int} {v:Value} (h1:ρ x=.int k m) (h2:ρ y=.int k' n)
  (h:(binOp op t (.int k m) (.int k' n)).run P w=.ok v w):(execOp ρ o).run P w=.ok (.value v) w:=
 sf op t x y u hop (by rw[h1,h2];exact vM ..) (by rw[h1,h2];exact h)
theorem AI {op:BinOp} {t:TypeId} {x y:Operand} {u:TypeId} (hop:o.op=.binOp op t x y u) {m n:ByteArray} {v:Value} (h1:ρ x=.string m) (h2:ρ y=.string n)
  (h:(binOp op t (.string m) (.string n)).run P w=.ok v w):(execOp ρ o).run P w=.ok (.value v) w:=
 sf op t x y u hop (by rw[h1,h2];exact vN ..) (by rw[h1,h2];exact h)
theorem EG {op:BinOp} {t:TypeId} {x y:Operand} {u:TypeId} (hop:o.op=.binOp op t x y u) {m n:Bool} {v:Value} (h1:ρ x=.bool m) (h2:ρ y=.bool n)
  (h:(binOp op t (.bool m) (.bool n)).run P w=.ok v w):(execOp ρ o).run P w=.ok (.value v) w:=
 sf op t x y u hop (by rw[h1,h2];exact se ..) (by rw[h1,h2];exact h)
theorem Cu {tr:Operand->Option A} {r:A->Value} {x:PX} (hx:Vx P tr o=some x) (htr:∀y z,tr y=some z->ρ y=r z) (hpre:x.pre r w.heap):
  (execOp ρ o).run P w=.ok (.value (x.val r w.heap)) w:=by
 cases hop:o.op<;>simp only[Vx,hop]at hx<;>try (cases hx;done)
 case move y=>
  simp only[bind,Option.bind_eq_some_iff]at hx;obtain⟨a,ha,hx⟩:=hx
  cases hx
  simp only[execOp,hop,Sem.run_pure,PX.val,htr _ _ ha]
 case assign y=>
  simp only[bind,Option.bind_eq_some_iff]at hx;obtain⟨a,ha,hx⟩:=hx
  cases hx
  simp only[execOp,hop,Sem.run_pure,PX.val,htr _ _ ha]
 case pick c y z=>
  simp only[bind,Option.bind_eq_some_iff]at hx;obtain⟨c',hc,y',hy,z',hz,hx⟩:=hx
  cases hx
  have hb:=dZ (v:=r c') hpre;simp only[execOp,hop,PX.val,htr _ _ hc,htr _ _ hy,htr _ _ hz];rw[hb];simp only[asBool,Sem.run_bind,Sem.run_pure,Result.andThen,Value.b]
  rfl
 case binOp op t y z u=>
  simp only[bind,Option.bind_eq_some_iff]at hx;obtain⟨y',hy,z',hz,hx⟩:=hx;have ey:=htr _ _ hy;have ez:=htr _ _ hz
  split at hx<;>cases hx<;>rename_i hu
  iterate 3
   obtain⟨h1,h2⟩:=hpre;exact kq hop (ey.trans (bp h1)) (ez.trans (bp h2)) (Nt _ (by simp) t _ _ _)
  iterate 2
   obtain⟨h1,h2,h3⟩:=hpre;exact kq hop (ey.trans (bp h1)) (ez.trans (bp h2)) (Nu _ (by simp) t _ _ _ h3)
  iterate 4
   obtain⟨h1,h2⟩:=hpre;exact kq hop (ey.trans (bp h1)) (ez.trans (bp h2)) (Nv _ (by simp) t _ _ _)
  iterate 2
   obtain⟨h1,h2,h3,h4⟩:=hpre;obtain⟨k',e2⟩:=aT h2;exact kq hop (ey.trans (bp h1)) (ez.trans e2) (Nw _ (by simp) t _ _ _ _ h3 h4)
  iterate 6
   obtain⟨h1,h2⟩:=hpre;exact kq hop (ey.trans (bp h1)) (ez.trans (bp h2)) (Nx _ (by simp) t _ _ _)
  ·obtain⟨h1,h2,h3⟩:=hpre;exact AI hop (ey.trans (bP h1)) (ez.trans (bP h2)) (EF t _ _ h3)
  iterate 6
   obtain⟨h1,h2⟩:=hpre;exact AI hop (ey.trans (bP h1)) (ez.trans (bP h2)) (Ny _ (by simp) t _ _)
  iterate 2
   obtain⟨h1,h2⟩:=hpre;exact EG hop (ey.trans (dZ h1)) (ez.trans (dZ h2)) (I2 _ (by simp) t hu _ _)
 case unOp op t y=>
  cases op<;>simp only[bind,Option.bind_eq_some_iff]at hx
  case not=>
   obtain⟨y',hy,hx⟩:=hx
   cases hx
   have e:=dZ (v:=r y') hpre;simp only[execOp,hop,htr _ _ hy];rw[e];refine bJ ?_;simp only[Op.unary,Sem.run_pure,PX.val]
  case neg=>
   obtain⟨y',hy,hx⟩:=hx
   split at hx
   case h_2=>cases hx
   rename_i k hu
   cases hx
   have e:=bp (v:=r y') hpre;simp only[execOp,hop,htr _ _ hy];rw[e];refine bJ ?_;simp only[Op.unary,Op.intArith,Sem.run_pure,PX.val,Int.zero_sub]
  case xor=>
   obtain⟨y',hy,hx⟩:=hx
   split at hx
   case h_2=>cases hx
   rename_i k hu
   cases hx
   have e:=bp (v:=r y') hpre;simp only[execOp,hop,htr _ _ hy];rw[e];refine bJ ?_;simp only[Op.unary,Op.intBits,Sem.run_pure,PX.val];rw[e]
   rfl
  case plus=>
   obtain⟨y',hy,hx⟩:=hx
   cases hx
 case convert s t y=>
  simp only[bind,Option.bind_eq_some_iff]at hx;obtain⟨y',hy,hx⟩:=hx;have ey:=htr _ _ hy
  split at hx<;>cases hx<;>rename_i hu hv
  ·obtain⟨k',e⟩:=aT (v:=r y') hpre;simp only[execOp,hop,ey,PX.val];refine bJ ?_;generalize(r y').i=n at*;rw[e];simp only[convert,Sem.run_bind,run_underlying hu,run_underlying hv,Result.andThen,Conv.intToInt,Sem.run_pure]
  ·have e:=bP (v:=r y') hpre;simp only[execOp,hop,ey,PX.val];refine bJ ?_;generalize(r y').s=n at*;rw[e];simp only[convert,Sem.run_bind,run_underlying hu,run_underlying hv,Result.andThen,Sem.run_pure]
 case load t y=>
  simp only[bind,Option.bind_eq_some_iff]at hx;obtain⟨y',hy,hx⟩:=hx;have ey:=htr _ _ hy
  split at hx<;>cases hx
  rename_i d hd1 hd2 hd3;simp only[execOp,hop,ey,PX.val];simp only[PX.pre]at hpre;refine bJ ?_;generalize r y'=v at*;unfold IW at*
  split at hpre
  ·rename_i a;obtain⟨x,hx⟩:=Option.isSome_iff_exists.1 hpre;have hl:=oh (P:=P) rfl hx;have Vy:(isAgg t).run P w=.ok false w:=by
    cases hu:P.underlying t with
    |none=>exact(hd3 hu).elim
    |some d=>
     simp only[isAgg,Sem.run_bind,run_underlying hu,Result.andThen]
     cases d<;>first|rfl|exact(hd1 _ hu).elim|exact(hd2 _ _ hu).elim
   simp only[Instr.loadAt,Instr.sureAddr,loadVar,Sem.run_bind,Sem.run_pure,Result.andThen,Vy,Bool.false_eq_true,if_false,hl,hx,Option.getD_some]
  ·cases hpre
 case nilCheck y=>
  simp only[bind,Option.bind_eq_some_iff]at hx;obtain⟨y',hy,hx⟩:=hx
  cases hx
  have ey:=htr _ _ hy;simp only[execOp,hop,ey,PX.val];simp only[PX.pre]at hpre;generalize r y'=v at*;clear ey
  cases v with
  |pointer a=>cases a with
   |none=>exact hpre.elim
   |some a=>rfl
  |nilIface=>exact hpre.elim
  |nilFunc=>exact hpre.elim
  |func fn fi ca=>cases fn<;>first|rfl|exact hpre.elim
  |_=>rfl
 case fieldAddr s y f=>
  simp only[bind,Option.bind_eq_some_iff]at hx;obtain⟨y',hy,hx⟩:=hx;have ey:=htr _ _ hy
  split at hx
  ·rename_i fs hu
   split at hx
   ·rename_i fd hf
    split at hx
    ·cases hx
    ·rename_i hne
     cases hx
     obtain⟨p,hp⟩:=og hpre;simp only[execOp,hop,ey,PX.val];refine bJ ?_;rw[hp];simp only[Instr.fieldAt,Sem.run_bind,run_underlying hu,Result.andThen,hf,Instr.sureAddr,Sem.run_pure,fieldPlace,gS P fd.type hne,hne,if_false,jK]
   ·cases hx
  ·cases hx
 case indexAddr t y i=>
  simp only[bind,Option.bind_eq_some_iff]at hx;obtain⟨y',hy,i',hi,hx⟩:=hx;have ey:=htr _ _ hy;have ei:=htr _ _ hi
  split at hx
  ·rename_i n e hu
   split at hx
   ·cases hx
    obtain⟨h1,h2,h3,h4⟩:=hpre;obtain⟨p,hp⟩:=og h1;obtain⟨k,hk⟩:=aT h2;rename_i hn;simp only[execOp,hop,ey,ei,PX.val];refine bJ ?_;generalize(r i').i=q at*;rw[hp,hk];have hc:0<=q/\q<(n:Int):=⟨h3,h4⟩
    simp only[Instr.indexAt,Sem.run_bind,asIntOf,run_underlying hu,Result.andThen,Instr.sureAddr,Sem.run_pure,hc,and_self,if_true,aQ P e hn.2,jK]
   ·cases hx
  ·rename_i e hu
   split at hx
   ·rename_i hn
    cases hx
    obtain⟨h2,h3⟩:=hpre;obtain⟨k,hk⟩:=aT h2;simp only[execOp,hop,ey,ei,PX.val];refine bJ ?_;generalize(r i').i=q at*;generalize r y'=v at*;rw[hk];unfold ED at h3
    split at h3
    ·rename_i a l c;obtain⟨h4,h5,h6⟩:=h3;obtain⟨p,rfl⟩:=Option.isSome_iff_exists.1 h4;have hc:0<=q/\q<(l:Int):=⟨h5,h6⟩
     simp only[Instr.indexAt,Sem.run_bind,asIntOf,run_underlying hu,Result.andThen,Sem.run_pure,hc,and_self,if_true,aQ P e hn,Ns,Option.map_some]
    ·exact h3.elim
   ·cases hx
  ·cases hx
 case extract y i=>
  simp only[bind,Option.bind_eq_some_iff]at hx;obtain⟨y',hy,hx⟩:=hx
  cases hx
  have ey:=htr _ _ hy;simp only[PX.pre]at hpre;simp only[execOp,hop,ey,PX.val];refine bJ ?_;unfold IY at*;generalize r y'=v at*
  cases v<;>simp only[Option.isSome_none,Bool.false_eq_true]at hpre
  obtain⟨x,hx⟩:=Option.isSome_iff_exists.1 hpre;simp only[Instr.extract,hx,Sem.run_pure,Option.getD_some]
theorem en {tr:Operand->Option A} {r:A->Value} {x:PX} (hx:px P tr o=some x) (htr:∀y z,tr y=some z->ρ y=r z) (hc:∀v,ρ (.const v)=v) (hpre:x.pre r w.heap):
  (execOp ρ o).run P w=.ok (.value (x.val r w.heap)) w:=by
 unfold px at hx
 split at hx
 ·rename_i x' h1;cases hx;exact Cu h1 htr hpre
 ·obtain⟨q,hq,rfl⟩:=Option.map_eq_some_iff.1 hx;exact EC hq htr hc hpre
end
end Go.Mg
