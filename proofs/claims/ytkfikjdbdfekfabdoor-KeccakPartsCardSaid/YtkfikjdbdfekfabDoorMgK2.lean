/- Lemmas of ours. No conditions. -/
import Derived.Test.YtkfikjdbdfekfabDoorMgK1
import Derived.Test.YtkfikjdbdfekfabDoorMgBytes
open Nat renaming reduceEqDiff→Za,reduceAdd→Zb,reduceMul→Zc
set_option linter.all false
namespace Go.Mg
open Go Go.RowKit
set_option maxRecDepth 10000
def eR (ι:bh):S:=
 .seq (kY [kC 7 (.int .i64 0)] (.blk 0 (.loop (kY [kV 8 (.cm .lss .i64 (.v 7) (.c (.int .i64 17)))] (.seq (.ite (.v 8) .skip (.exit 0)) (.seq (.blk 1 (kY [kA 9 7,kB 4 9] (kY [kC 5 (.int .u64 0)] (.seq (kY [kC 6 (.int .i64 7)] (.blk 2 (.loop (.seq (kY [kA 10 6,kV 11 (.cm .geq .i64 (.t 10) (.c (.int .i64 0)))] (.ite (.v 11) .skip (.exit 2))) (.seq (.blk 3 (.reg [kA 14 5,kU 15 (.sh .shl .u64 (.t 14) (.c (.int .u64 8))),kA 16 1,kA 17 4,kU 18 (.ar .mul .i64 (.c (.int .i64 8)) (.t 17)),kA 19 6,kU 20 (.ar .add .i64 (.t 18) (.t 19)),kI 21 1 16 20,kD 22 21,kU 23 (.ii .u64 (.t 22)),kU 24 (.bt .or .u64 (.t 15) (.t 23)),kB 5 24])) (.reg [kA 12 6,kU 13 (.ar .sub .i64 (.t 12) (.c (.int .i64 1))),kB 6 13])))))) (.reg [kA 25 0,kA 26 4,kU 27 (.nil (.t 25)),kU 28 (.ia 25 1 (.t 27) (.t 26)),kD 29 28,kA 30 5,kU 31 (.bt .xor .u64 (.t 29) (.t 30)),kU 32 (.nil (.t 25)),kU 33 (.ia 25 1 (.t 32) (.t 26)),kf (.st (.t 33) (.t 31))]))))) (.reg [ke 34 7,kB 7 34]))))))) (.reg [kA 35 0,kc 36 (kg (ι.f 6) [.t 35])])
def eS:List RV:=[]
def wN (m:List UInt8) (i j:Nat):UInt64:=iter j (fun w j=>(w<<<8)|||(m.getD (8*i+(7 -j)) 0).toUInt64) 0
def bT (st:List UInt64) (m:List UInt8) (i:Nat):List UInt64:=iter i (fun st i=>st.set i (st.getD i 0^^^wN m i 8)) st
def aS (st:List UInt64) (m:List UInt8):List UInt64:=gy (bT st m 17)
theorem ct (st:List UInt64) (m:List UInt8) (i:Nat):(bT st m i).length=st.length:=by
 unfold bT;rw[aM (by simp)]
theorem cu (st:List UInt64) (m:List UInt8):(aS st m).length=st.length:=by
 unfold aS;rw[iF,ct]
theorem nV (w:UInt64) (x:UInt8):bits .or .u64 (IntKind.u64.wrap ((w.toNat:Int)*2^8)) (IntKind.u64.wrap (x.toNat:Int))=(((w<<<8)|||x.toUInt64).toNat:Int):=by
 have h1:IntKind.u64.wrap ((w.toNat:Int)*2^8)=((w<<<8).toNat:Int):=by
  rw[IntKind.wrap_u64,UInt64.toNat_shiftLeft,Nat.shiftLeft_eq];have:(8:UInt64).toNat % 64=8:=rfl;rw[this];simp
 have h2:IntKind.u64.wrap (x.toNat:Int)=(x.toUInt64.toNat:Int):=by
  have:=x.toNat_lt;rw[IntKind.wrap_u64,UInt8.toNat_toUInt64];omega
 rw[h1,h2,gz]
def aE (ι:bh) (H:Hp):Prop:=Bl H (ι.g 4) (bn bm)/\Bl H (ι.g 5) (bx.map fun(n:Nat)=>.int .i64 n)
def nW (ι:bh) (b:Nat):Prop:=b≠ι.g 4/\b≠ι.g 5
variable {ι:bh} {H H':Hp} {b:Nat}
theorem aE.ax {W:Nat->Prop} (h:aE ι H) (hk:ae W H H') (h1:¬W (ι.g 4)) (h2:¬W (ι.g 5)):aE ι H':=
 ⟨hk.bl h.1 h1,hk.bl h.2 h2⟩
theorem aE.mq (h:aE ι H) (hk:ae (·=b) H H') (hb:nW ι b):aE ι H':=
 h.ax hk (fun e=>hb.1 e.symm) (fun e=>hb.2 e.symm)
theorem aE.lt (h:aE ι H):ι.g 4<H.size/\ι.g 5<H.size:=⟨h.1.lt,h.2.lt⟩
theorem aE.new (h:aE ι H) (hb:H.size<=b):nW ι b:=by
 have:=h.lt;exact⟨by omega,by omega⟩
def Src (H:Hp) (sb so:Nat) (m:List UInt8):Prop:=∀i,i<136->cell H ⟨sb,so+i,none⟩=some (.int .u8 (m.getD i 0).toNat)
def bU (P:Program) (ι:bh) (k:FuncId):Prop:=∀(b:Nat) (st:List UInt64) (rest:List Value) (sb so c:Nat) (m:List UInt8),st.length=25->∀H,Bl H b (bn st++rest)->nW ι b->aE ι H→
 Src H sb so m->(sb=b->25<=so)→
 ai P k #[.pointer (some ⟨b,0,none⟩),.slice (some ⟨sb,so,none⟩) 136 c] H fun v H'=>v=.tuple #[]/\Bl H' b (bn (aS st m)++rest)/\ae (·=b) H H'
theorem gA {p q:Addr} {v:Value} (hp:p.spot=none) (h:q.block≠p.block\/q.off≠p.off):cell (al H p v) q=cell H q:=by
 by_cases hb:q.block=p.block
 ·have ho:q.off≠p.off:=h.resolve_left (fun h=>h hb);unfold cell al;rw[Array.getElem?_modify,if_pos hb.symm,hb]
  cases hH:H[p.block]? with
  |none=>rfl
  |some o=>cases o with
   |cells C T z=>
    simp[hp];rw[Array.getElem?_setIfInBounds_ne (fun e=>ho e.symm)]
   |_=>rfl
 ·unfold cell;rw[aW hb]
theorem Src.al {sb so:Nat} {m:List UInt8} (h:Src H sb so m) {o:Nat} (v:Value) (hb:sb=b->o<so):Src (al H ⟨b,o,none⟩ v) sb so m:=by
 intro i hi;rw[gA rfl];exact h i hi
 by_cases e:sb=b
 ·right;have:=hb e;show so+i≠o;omega
 ·left;exact e
theorem k8 {P:Program} {k:FuncId} (hk:ah P k (eR ι) eS 2) (hp:eO P ι (ι.f 6)):bU P ι k:=by
 intro b st rest sb so c m hst H hb p6 hG mr hal;refine ag hk (args:=[_,_]) (by simp) ?_;unfold eR eS kA kB kC kD ke kI kU kV kc kf kg kY;simp only[go_sem,zS,↓reduceIte,Za,Zb,Zc,reduceCtorEq,aa];refine aD [8,4,5,6,11,7] rfl (fun n f H'=>∃i,i<=17/\n=17 -i/\f 7=.int .i64 i/\Bl H' b (bn (bT st m i)++rest)/\Src H' sb so m/\ae (·=b) H H') 17
  ⟨0,by omega,by omega,rfl,hb,mr,ae.refl _ _⟩ ?_
 rintro n g H1 ⟨i,wT,rfl,uD,nK,hs1,iR⟩;simp only[go_sem,zS,↓reduceIte,Za,Zb,Zc,reduceCtorEq,aa]at uD;simp only[go_sem,zS,↓reduceIte,Za,Zb,Zc,reduceCtorEq,aa,uD];refine au (fun hlt=>?_) (fun o8=>?_)
 ·have hi:i<17:=by omega
  refine aD [11,5,6] rfl (fun n f H'=>∃j,j<=8/\n=8 -j/\f 6=.int .i64 (7 -(j:Int))/\f 5=.int .u64 (wN m i j).toNat/\H'=H1) 8 ⟨0,by omega,by omega,rfl,rfl,rfl⟩ ?_;rintro n2 g2 H' ⟨j,xN,rfl,uE,uF,rfl⟩;simp only[go_sem,zS,↓reduceIte,Za,Zb,Zc,reduceCtorEq,aa]at uE uF;simp only[go_sem,zS,↓reduceIte,Za,Zb,Zc,reduceCtorEq,aa,uE,uF];refine au (fun tD=>?_) (fun rz=>?_)
  ·have hj:j<8:=by omega
   have e:(8*(i:Int)+(7 -(j:Int)))=((8*i+(7 -j):Nat):Int):=by omega
   have e2:(7 -(j:Int)) -1=7 -((j+1:Nat):Int):=by omega
   have hc:=hs1 (8*i+(7 -j)) (by omega);simp(disch:=omega)only[go_sem,zS,↓reduceIte,Za,Zb,Zc,reduceCtorEq,aa,uE,uF,IntWalk.i64_in,e,aq,Option.map_some,hc,e2];refine⟨by omega,by omega,8 -(j+1),by omega,j+1,by omega,rfl,rfl,?_⟩;have:=nV (wN m i j) (m.getD (8*i+(7 -j)) 0);exact congrArg (Value.int .u64) this
  ·have hj:j=8:=by omega
   subst hj;have hl:(bT st m i).length=25:=by rw[ct];exact hst
   have ga:=bJ (bT st m i) rest i (by omega);simp(disch:=omega)only[go_sem,zS,↓reduceIte,Za,Zb,Zc,reduceCtorEq,aa,uD,nK.cell,nK.cE,ga,IntWalk.i64_in,a8];refine⟨by omega,by omega,17 -(i+1),by omega,i+1,by omega,rfl,by simp,?_,hs1.al _ (fun e=>by have:=hal e;omega),iR.al _ (.inl rfl)⟩;have:=nK.al i (.int .u64 ((bT st m i).getD i 0^^^wN m i 8).toNat);rw[c8 _ _ _ (by omega)]at this;exact this
 ·have hi:i=17:=by omega
  subst hi;refine(hp _ _ _ (by rw[ct];exact hst) _ nK p6.1 p6.2 (hG.mq iR p6).1 (hG.mq iR p6).2).mono ?_;rintro v H' ⟨rfl,h1,h2⟩;simp only[go_sem,zS,↓reduceIte,Za,Zb,Zc,reduceCtorEq,aa];exact⟨h1,iR.trans h2⟩
end Go.Mg
