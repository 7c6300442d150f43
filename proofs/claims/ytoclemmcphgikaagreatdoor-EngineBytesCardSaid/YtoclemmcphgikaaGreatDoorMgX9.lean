/- Lemmas of ours. No conditions. -/
import Derived.Test.YtoclemmcphgikaaGreatDoorMgX6
open Bool renaming false→ZS,true→ZT
open Decidable renaming decide→ZQ
open Go renaming Value→ZR
open Go.IntKind renaming i64→ZY
open Go.Value renaming agg→Z0,bool→Z5,int→Z8,pointer→Z7,slice→Z6,tuple→ZZ
open Option renaming none→ZU,some→ZV
open Bool renaming and_eq_true→ZJ,and_true→Wu,not_false→ZB,not_true→ZE
open Classical renaming byContradiction→Zn
open List renaming all_cons→Yc,all_nil→Xs,append_nil→YY,getD_eq_getElem?_getD→ZP,getElem?_append_left→YP,getElem?_eq_getElem→ZO,getElem?_set_ne→Yw,map_cons→Y9,map_nil→YC
open Nat renaming add_comm→Xc,le_refl→ZH,le_trans→Zp,zero_le→Xf
open Nat renaming reduceEqDiff→Za,reduceAdd→Zb,reduceMul→Zc
set_option maxRecDepth 100000
set_option linter.all false
namespace Go.Mg
open Go Go.RowKit
def tC (V:aH):T:=
 (ka 22 (.app ZS (V.t 297) 2 24 #[.string ⟨#[]⟩,Z8 ZY 0] (.t 15) (.t 21)) (kW 23 (.fa 0 (.v 5)) (kb (.st (.t 23) (.t 22)) .done .wnil)) .wnil)
def tD (V:aH):T:=
 (ka 48 (.app ZS (V.t 194) 2 16 #[Z8 ZY 0,Z8 ZY 0] (.t 41) (.t 47)) (kW 49 (.nil (.t 38)) (kb (.st (.t 49) (.t 48)) .done .wnil)) .wnil)
def tE (V:aH):T:=
 (ka 64 (.app ZS (V.t 298) 2 32 #[Z8 ZY 0,kZ] (.t 57) (.t 63)) (kW 65 (.fa 4 (.v 5)) (kb (.st (.t 65) (.t 64)) .done .wnil)) .wnil)
def Kf (V:aH):S:=
 (.dr (kW 14 (.fa 0 (.v 5)) (kW 16 (.mv (.v 4)) (kW 18 (.mv (.v 4)) (ka 15 (.rd (.ld (.t 14))) (ka 17 (kg (V.f 115) [.t 16,.c (Z8 ZY 12)]) (ka 19 (kg (V.f 342) [.t 18,.c (Z8 ZY 63)]) (kW 20 (.m (.bld #[.string ⟨#[]⟩,Z8 ZY 0] [(0,(1,.t 17)),(1,(1,.t 19))])) (ka 21 (.aX (V.t 297) 2 1 [.t 20]) (tC V) .wnil)) .wnil) .wnil) (ka 17 (kg (V.f 115) [.t 16,.c (Z8 ZY 12)]) (ka 15 (.rd (.ld (.t 14))) (ka 19 (kg (V.f 342) [.t 18,.c (Z8 ZY 63)]) (kW 20 (.m (.bld #[.string ⟨#[]⟩,Z8 ZY 0] [(0,(1,.t 17)),(1,(1,.t 19))])) (ka 21 (.aX (V.t 297) 2 1 [.t 20]) (tC V) .wnil)) .wnil) (ka 19 (kg (V.f 342) [.t 18,.c (Z8 ZY 63)]) (kW 20 (.m (.bld #[.string ⟨#[]⟩,Z8 ZY 0] [(0,(1,.t 17)),(1,(1,.t 19))])) (ka 15 (.rd (.ld (.t 14))) (ka 21 (.aX (V.t 297) 2 1 [.t 20]) (tC V) .wnil) (ka 21 (.aX (V.t 297) 2 1 [.t 20]) (ka 15 (.rd (.ld (.t 14))) (tC V) .wnil) .wnil))) .wnil)) .wnil))))))
def Kg (V:aH):S:=
 (.dr (kW 38 (.mv (.v 7)) (kW 39 (.mv (.v 7)) (kW 40 (.nil (.t 39)) (kW 42 (.mv (.v 4)) (kW 44 (.mv (.v 4)) (ka 41 (.rd (.ld (.t 40))) (ka 43 (kg (V.f 342) [.t 42,.c (Z8 ZY 10)]) (ka 45 (kg (V.f 342) [.t 44,.c (Z8 ZY 10)]) (kW 46 (.m (.bld #[Z8 ZY 0,Z8 ZY 0] [(0,(1,.t 43)),(1,(1,.t 45))])) (ka 47 (.aX (V.t 194) 2 1 [.t 46]) (tD V) .wnil)) .wnil) .wnil) (ka 43 (kg (V.f 342) [.t 42,.c (Z8 ZY 10)]) (ka 41 (.rd (.ld (.t 40))) (ka 45 (kg (V.f 342) [.t 44,.c (Z8 ZY 10)]) (kW 46 (.m (.bld #[Z8 ZY 0,Z8 ZY 0] [(0,(1,.t 43)),(1,(1,.t 45))])) (ka 47 (.aX (V.t 194) 2 1 [.t 46]) (tD V) .wnil)) .wnil) (ka 45 (kg (V.f 342) [.t 44,.c (Z8 ZY 10)]) (kW 46 (.m (.bld #[Z8 ZY 0,Z8 ZY 0] [(0,(1,.t 43)),(1,(1,.t 45))])) (ka 41 (.rd (.ld (.t 40))) (ka 47 (.aX (V.t 194) 2 1 [.t 46]) (tD V) .wnil) (ka 47 (.aX (V.t 194) 2 1 [.t 46]) (ka 41 (.rd (.ld (.t 40))) (tD V) .wnil) .wnil))) .wnil)) .wnil))))))))
def Kh (V:aH):S:=
 (.dr (kW 56 (.fa 4 (.v 5)) (kW 58 (.mv (.v 4)) (kW 60 (.mv (.v 4)) (ka 57 (.rd (.ld (.t 56))) (ka 59 (kg (V.f 342) [.t 58,.c (Z8 ZY 10)]) (ka 61 (kg (V.f 343) [.t 60,.c (Z8 ZY 10)]) (kW 62 (.m (.bld #[Z8 ZY 0,kZ] [(0,(1,.t 59)),(1,(1,.t 61))])) (ka 63 (.aX (V.t 298) 2 1 [.t 62]) (tE V) .wnil)) .wnil) .wnil) (ka 59 (kg (V.f 342) [.t 58,.c (Z8 ZY 10)]) (ka 57 (.rd (.ld (.t 56))) (ka 61 (kg (V.f 343) [.t 60,.c (Z8 ZY 10)]) (kW 62 (.m (.bld #[Z8 ZY 0,kZ] [(0,(1,.t 59)),(1,(1,.t 61))])) (ka 63 (.aX (V.t 298) 2 1 [.t 62]) (tE V) .wnil)) .wnil) (ka 61 (kg (V.f 343) [.t 60,.c (Z8 ZY 10)]) (kW 62 (.m (.bld #[Z8 ZY 0,kZ] [(0,(1,.t 59)),(1,(1,.t 61))])) (ka 57 (.rd (.ld (.t 56))) (ka 63 (.aX (V.t 298) 2 1 [.t 62]) (tE V) .wnil) (ka 63 (.aX (V.t 298) 2 1 [.t 62]) (ka 57 (.rd (.ld (.t 56))) (tE V) .wnil) .wnil))) .wnil)) .wnil))))))
def Dv (V:aH):S:=
 kY [kd 2 (.new (V.t 296) #[kZ,kZ,kZ,kZ,kZ]),kC 3 (Z8 ZY 0)] (kY [kA 8 0,kc 9 (kg (V.f 108) [.t 8]),kB 4 9] (kY [kd 5 (.new (V.t 296) #[kZ,kZ,kZ,kZ,kZ])] (.seq (kY [kA 10 4,kd 11 (kg (V.f 113) [.t 10,.c (Z8 ZY 10)]),kC 12 (Z8 ZY 0)] (.blk 0 (.loop (kY [kH 13 12 11] (.seq (.ite (.v 13) .skip (.exit 0)) (.seq (.blk 1 (Kf V)) (.reg [ke 24 12,kB 12 24]))))))) (.seq (kY [kG 25 1 5,kG 26 2 5,kG 27 3 5,kd 28 (.aX (V.t 350) 1 3 [.t 25,.t 26,.t 27]),kO 29 28,kC 30 (Z8 ZY 0)] (.blk 2 (.loop (kY [kH 31 30 29] (.seq (.ite (.v 31) .skip (.exit 2)) (.seq (.blk 3 (kY [kK 32 1 28 30,kD 33 32,kB 7 33] (kY [kA 34 4,kd 35 (kg (V.f 113) [.t 34,.c (Z8 ZY 20)]),kC 36 (Z8 ZY 0)] (.blk 4 (.loop (kY [kH 37 36 35] (.seq (.ite (.v 37) .skip (.exit 4)) (.seq (.blk 5 (Kg V)) (.reg [ke 50 36,kB 36 50]))))))))) (.reg [ke 51 30,kB 30 51]))))))) (.seq (kY [kA 52 4,kd 53 (kg (V.f 113) [.t 52,.c (Z8 ZY 20)]),kC 54 (Z8 ZY 0)] (.blk 6 (.loop (kY [kH 55 54 53] (.seq (.ite (.v 55) .skip (.exit 6)) (.seq (.blk 7 (Kh V)) (.reg [ke 66 54,kB 54 66]))))))) (.seq (kY [kA 67 4,kc 68 (kg (V.f 117) [.t 67]),kU 69 (.cm .neq ZY (.t 68) (.c (Z8 ZY 0))),kF 70 69,kT 71 70 ZS (.m (.ldn 5 (.v 5))),.ge (.t 72) (.t 70) ZS (kg (V.f 312) [.t 71]),kT 73 70 ZS (.not (.t 72)),kU 74 (.pick (.t 70) (.c (Z5 ZT)) (.t 73)),kF 75 74,kT 76 75 ZS (.m (.ldn 5 (.v 5))),.ge (.t 77) (.t 75) ZS (kg (V.f 348) [.t 76]),kS 78 75 ZS 0,.ge (.t 79) (.t 75) ZS (kg (V.f 344) [.t 77,.t 78]),kT 80 75 ZS (.not (.t 79)),kV 81 (.pick (.t 75) (.c (Z5 ZT)) (.t 80))] (.ite (.v 81) (kY [kU 82 (.m (.bld #[kZ,kZ,kZ,kZ,kZ] [])),kf (.stn 5 (.v 2) (.t 82)),kC 3 (Z8 ZY 6)] .ret) .skip)) (kY [kM 83 5 5,kf (.stn 5 (.v 2) (.t 83)),kC 3 (Z8 ZY 0)] .ret)))))))
def Dw:List RV:=[.cn 2 5,.t 3]
structure iZ (rb b:Nat) (cs:List ZR) (F:Nat->Prop) (Y:Hp->Prop) (A0:Hp) (s:RS) (A:Hp):Prop where
 k:af (fun q=>q=rb) A0 A
 B:Bl A b cs
 R:jm F A rb s.1 s.2
 l:s.1.length<=1000000
 n:b≠rb
 y:Y A
 st:∀A A',af (fun _=>False) A A'->Y A->Y A'
section
variable {P:Program} {W:Nat->Prop} {rb b:Nat} {cs:List ZR} {F:Nat->Prop} {A0 A:Hp} {s:RS} {e:Env} {f:Fr} {Q:Fr->Hp->Prop} {t m:T} {d a:Nat} {Y:Hp->Prop}
def iZ.rd (h:iZ rb b cs F Y A0 s A) {off:Nat} {lv:ZR} (hc:cs[off]?=ZV lv) (he:look e a=Z7 (ZV ⟨b,off,ZU⟩)) (hK:dJ P W t ((d,lv)::e) f A Q) (hm:dJ P W m e f A Q):dJ P W (.wcons (.t d) ZU (.rd (.ld (.t a))) t m) e f A Q:=by
 have c0:cell A ⟨b,off,ZU⟩=ZV lv:=by rw[h.B.cell];exact hc
 rw[en];refine⟨?_,hm⟩;simp only[EX.wp,PX.pre,PX.val,iW,he,zQ,c0,Option.isSome_some,Option.getD_some,aJ,gQ,nV,true_and];exact⟨af.refl _ _,hK⟩
def ru (most:Nat) (s:RS):(bj most s).2.1.length<=s.1.length:=by
 unfold bj
 split
 ·exact ZH _
 ·split
  ·exact ZH _
  ·next v r h=>
   have:=(jW _ _ _ _ _ h).1
   split
   ·exact ZH _
   ·split
    ·exact ZH _
    ·simp only[List.length_drop];omega
def iv (most:Nat) (s:RS):(rdNum most s).2.1.length<=s.1.length:=by
 unfold rdNum
 split
 ·exact ZH _
 ·split
  ·exact ZH _
  ·next v r h=>
   have:=(jW _ _ _ _ _ h).1
   split
   ·exact ZH _
   ·simp only;omega
def kh (most:Nat) (s:RS):(bF most s).2.1.length<=s.1.length/\(bF most s).1<=most:=by
 unfold bF
 split
 ·exact⟨ZH _,Xf _⟩
 ·split
  ·exact⟨ZH _,Xf _⟩
  ·next v r h=>
   have:=(jW _ _ _ _ _ h).1
   split
   ·exact⟨ZH _,Xf _⟩
   ·simp only;omega
def uY (most:Nat) (s:RS):(dg most s).2.1.length<=s.1.length:=by
 have:=ru 512 s;unfold dg
 split
 ·exact ZH _
 ·split
  ·exact this
  ·split
   ·exact ZH _
   ·split
    ·exact ZH _
    ·exact this
def iZ.next (h:iZ rb b cs F Y A0 s A) {s':RS} {A':Hp} (hl:s'.1.length<=s.1.length) (R:jm F A' rb s'.1 s'.2) (k:af (fun q=>q=rb) A A') {Y':Hp->Prop} (y:Y' A') (st:∀A A',af (fun _=>False) A A'->Y' A->Y' A'):iZ rb b cs F Y' A0 s' A':=
 ⟨h.k.trans k,k.bl h.B h.n,R,Zp hl h.l,h.n,y,st⟩
def iZ.str {j:FuncId} (hj:rj P j) (h:iZ rb b cs F (fun _=>True) A0 s A) (hW:W rb) {most:Nat} (hm:most<=1000000000) (he:look e a=Z7 (ZV ⟨rb,0,ZU⟩))
  (hK:∀A',iZ rb b cs F (fun _=>True) A0 (bj most s).2 A'->dJ P W t ((d,.string ⟨(bj most s).1.toArray⟩)::e) f A' Q) (wO:dJ P W m e f A Q):dJ P W (.wcons (.t d) ZU (.call j [.t a,.c (Z8 ZY (most:Int))]) t m) e f A Q:=by
 rw[en];refine⟨?_,wO⟩;simp only[EX.wp,Y9,YC,iW,rd_c,he];refine(hj F rb s most A h.R (Zp h.l (by omega)) hm).mono ?_;rintro x A' ⟨rfl,R,k⟩;exact⟨k.mono fun q _ e=>by rw[e];exact hW,hK A' (h.next (ru most s) R k trivial fun _ _ _ _=>trivial)⟩
def iZ.num {j:FuncId} (hj:ew P j) (h:iZ rb b cs F (fun _=>True) A0 s A) (hW:W rb) {most:Nat} (hm:most<=1000000000) (he:look e a=Z7 (ZV ⟨rb,0,ZU⟩))
  (hK:∀A',iZ rb b cs F (fun _=>True) A0 (rdNum most s).2 A'->dJ P W t ((d,Z8 ZY ((rdNum most s).1:Int))::e) f A' Q) (wO:dJ P W m e f A Q):dJ P W (.wcons (.t d) ZU (.call j [.t a,.c (Z8 ZY (most:Int))]) t m) e f A Q:=by
 rw[en];refine⟨?_,wO⟩;simp only[EX.wp,Y9,YC,iW,rd_c,he];refine(hj F rb s most A h.R (Zp h.l (by omega)) hm).mono ?_;rintro x A' ⟨rfl,R,k⟩;exact⟨k.mono fun q _ e=>by rw[e];exact hW,hK A' (h.next (iv most s) R k trivial fun _ _ _ _=>trivial)⟩
def agS (C:Nat) (y:ZR) (p:Nat->Bool) (A:Hp):Prop:=aR A y p/\∀q,jG y q->C<=q
def iZ.set {j:FuncId} (hj:gG P j) (h:iZ rb b cs F (fun _=>True) A0 s A) (hW:W rb) {most:Nat} (hm:most<=1000000000) (he:look e a=Z7 (ZV ⟨rb,0,ZU⟩))
  (hK:∀y A',iZ rb b cs F (agS A0.size (Z0 #[y]) (bP (dg most s).1)) A0 (dg most s).2 A'->dJ P W t ((d,Z0 #[y])::e) f A' Q) (wO:dJ P W m e f A Q):dJ P W (.wcons (.t d) ZU (.call j [.t a,.c (Z8 ZY (most:Int))]) t m) e f A Q:=by
 rw[en];refine⟨?_,wO⟩;simp only[EX.wp,Y9,YC,iW,rd_c,he];refine(hj F rb s most A h.R (Zp h.l (by omega)) hm).mono ?_;rintro x A' ⟨S,o,R,k⟩;have hS:=S;obtain⟨y,_,rfl,_⟩:=hS;have:=h.k.size;exact⟨k.mono fun q _ e=>by rw[e];exact hW,hK y A' (h.next (uY most s) R k ⟨S,fun q hq=>by have:=o q hq;omega⟩ fun _ _ K h=>⟨h.1.aj K,h.2⟩)⟩
def Ud {z:Array ZR} {te a1 a2:Nat} {x y cx cy:ZR} (h1:look e a1=x) (h2:look e a2=y) (hx:x.cells=#[cx]) (hy:y.cells=#[cy]) (hz:z.size=2) (hK:dJ P W t ((te,Z0 #[cx,cy])::e) f A Q):dJ P W (.px (.t te) ZU (.m (.bld z [(0,(1,.t a1)),(1,(1,.t a2))])) t) e f A Q:=by
 obtain⟨l⟩:=z
 match l,hz with
 |[u,w],_=>
  rw[cQ];simp only[ek,PX.free,PM.free,if_true,PX.pre,PM.pre,eJ,iW,h1,h2,hx,hy,PX.val,PM.val,oR,cR,gQ,nV];exact⟨⟨rfl,by simp,rfl,by simp,trivial⟩,hK⟩
def iZ.aX (h:iZ rb b cs F Y A0 s A) {T:TypeId} {cx cy:ZR} (he:look e a=Z0 #[cx,cy]) (hK:∀A' bn,iZ rb b cs F Y A0 s A'->Bl A' bn [cx,cy]->dJ P W t ((d,Z6 (ZV ⟨bn,0,ZU⟩) 1 1)::e) f A' Q) (wO:dJ P W m e f A Q):dJ P W (.wcons (.t d) ZU (.aX T 2 1 [.t a]) t m) e f A Q:=by
 rw[en];refine⟨?_,wO⟩;simp only[EX.wp,List.forall_mem_cons,List.not_mem_nil,false_imp_iff,implies_true,and_true,iW,he,Value.cells,List.flatMap_cons,List.flatMap_nil,YY];have K1:af (fun _=>False) A (A.push (.cells #[cx,cy] T)):=(af.refl _ _).push _;refine⟨rfl,K1.any,hK _ _ ⟨h.k.trans K1.any,K1.bl h.B id,h.R.ai K1 (by simp),h.l,h.n,h.st _ _ K1 h.y,h.st⟩ (Bl.dh _ _ _)⟩
end
def Ue {α:Type} {enc:α->List ZR} {k:Nat} {P:Program} {T:TypeId} {bytes:Nat} {z:Array ZR} {lv sv:ZR} {H:Hp} {a c p off:Nat} {e:Env} {f:Fr} {Q:Fr->Hp->Prop} {b C:Nat} {cs:List ZR} {L M:List α} {W:Nat->Prop} (hWb:W b) (hWo:∀q,ay lv q->W q)
  (hk:∀x,(enc x).length=k) (h1c:∀x,∀v∈enc x,v.oneCell'=ZT) (hs:cr enc k H lv L) (hn:∀q,ay lv q->C<=q) (hH:C<=H.size) (hx:bk enc k H sv M) (hz:z.size=k) (hb:bytes<=64) (h1:L.length+M.length<=1000000000)
  (hB:Bl H b cs) (hbC:b<C) (hoff:off<cs.length) (hf:look e c=Z7 (ZV ⟨b,off,ZU⟩)) (hap:(p==a||c==a)=ZS)
  (hK:∀v' H',cr enc k H' v' (L++M)->(∀q,ay v' q->ay lv q\/H.size<=q)->Bl H' b (cs.set off v')->af (fun q=>q=b\/ay lv q) H H'->Q f H'):
  jn ZS T k bytes z lv sv H (mg P W H (.t a) (.px (.t p) ZU (.nil (.t c)) (.wcons .no ZU (.st (.t p) (.t a)) .done .wnil)) e f Q):=by
 refine Ll hk h1c hs hx hz (by unfold maxLen;omega) (Zp (Nat.mul_le_mul h1 hb) (by omega)) fun v' H' O' K' o'=>?_;simp only[Bool.or_eq_false_iff,beq_eq_false_iff_ne,ne_eq]at hap;have G7:¬a=p:=fun h=>hap.1 h.symm;have B':=K'.bl hB (fun h=>by have:=hn b h;omega);have hsl:aq v':=by obtain⟨_,_,_,rfl⟩:=O'.shape;trivial
 have cI:=K'.size;refine⟨K'.mono fun q _ h=>hWo q h,?_⟩;have K2:af (fun q=>q=b\/ay lv q) H (az H' ⟨b,off,ZU⟩ v'):=(K'.mono fun q _ h=>.inr h).az _ (.inl (.inl rfl));have K3:af W H' (az H' ⟨b,off,ZU⟩ v'):=(af.refl _ _).az _ (.inl hWb);simp only[cQ,en,vw,vv,ek,PX.free,PX.pre,PX.val,rI,iW,gQ,nV,oo,jo,bD,hf,if_true,G7,hap.2,if_false,EX.wp,bw,Uy,aJ,and_true,true_and];exact⟨⟨B'.bw hoff,aK hsl⟩,K3,hK v' _ (O'.ai ((af.refl (fun q=>q=b) H').az v' (.inl rfl)) fun q hq e=>by
  rcases o' q hq with h|h
  ·have:=hn q h;omega
  ·omega) o' (B'.az off v') K2⟩
structure F6 (rb b C:Nat) (cs:List ZR) (F:Nat->Prop) (s:RS) (A:Hp):Prop where
 B:Bl A b cs
 R:jm F A rb s.1 s.2
 l:s.1.length<=1000000
 n:b≠rb
 bC:b<C
 rC:rb<C
 hC:C<=A.size
 nF:¬F b
 FC:∀q,F q->q<C
def rG (rb b C:Nat) (q:Nat):Prop:=q=b\/q=rb\/C<=q
def F6.s {rb b C:Nat} {cs:List ZR} {F:Nat->Prop} {s:RS} {A:Hp} (h:F6 rb b C cs F s A):iZ rb b cs F (fun _=>True) A s A:=
 ⟨af.refl _ _,h.B,h.R,h.l,h.n,trivial,fun _ _ _ _=>trivial⟩
def RdK {α:Type} (enc:α->List ZR) (rb b C off:Nat) (cs:List ZR) (F:Nat->Prop) (s':RS) (x:α) (L:List α) (A:Hp) (N:Fr->Hp->Prop) (f:Fr):Prop:=∀A' uZ,Bl A' b (cs.set off uZ)->cr enc 2 A' uZ (L++[x])->(∀q,ay uZ q->C<=q)->jm F A' rb s'.1 s'.2->af (rG rb b C) A A'->N f A'
def adv {P:Program} {V:aH} {off:Nat} {f:Fr} {A A':Hp} {e:Env} {rb b C bn:Nat} {cs:List ZR} {F:Nat->Prop} {s s':RS} {lv:ZR} {L:List _} {x:_} {N:Fr->Hp->Prop} (h5:f 5=Z7 (ZV ⟨b,0,ZU⟩)) (hI:F6 rb b C cs F s A) (O:cr cB 2 A lv L) (o:∀q,ay lv q->C<=q) (hL:L.length<=100) (hoff:0<cs.length)
  (hS:iZ rb b cs F (fun _=>True) A s' A') (hBn:Bl A' bn (cB x)) (e1:look e 15=lv) (e2:look e 21=Z6 (ZV ⟨bn,0,ZU⟩) 1 1) (hK:RdK cB rb b C 0 cs F s' x L A N f):dJ P (rG rb b C) (tC V) e f A' N:=by
 unfold tC kW ka kb;rw[en];refine⟨?_,trivial⟩;simp only[EX.wp,iW,e1,e2];have hs:=hS.k.size;have n1:∀q,ay lv q->q≠rb:=fun q hq e=>by have:=o q hq;have:=hI.rC;omega
 have hC:=hI.hC;refine pj (C:=C) (.inl rfl) (fun q hq=>.inr (.inr (o q hq))) dE jL (O.ai hS.k n1) o (by omega) (bk.bl hBn (l:=[x]) rfl (by simp[dE]) (by simp)) rfl (by omega) (by simp;omega) hS.B hI.bC hoff h5 rfl fun v' A2 O' o' B' K'=>?_;refine hK A2 v' B' O' (fun q hq=>?_) (hS.R.ai K' fun q hq e=>?_) ((hS.k.mono fun q _ e=>.inr (.inl e)).trans (K'.mono fun q _ hq=>?_))
 ·rcases o' q hq with h|h
  ·exact o q h
  ·omega
 ·rcases e with e|e
  ·exact hI.nF (e▸hq)
  ·have:=o q e;have:=hI.FC q hq;omega
 ·rcases hq with h|h
  ·exact .inl h
  ·exact .inr (.inr (o q h))
def adw {P:Program} {V:aH} {off:Nat} {f:Fr} {A A':Hp} {e:Env} {rb b C bn:Nat} {cs:List ZR} {F:Nat->Prop} {s s':RS} {lv:ZR} {L:List _} {x:_} {N:Fr->Hp->Prop} (hI:F6 rb b C cs F s A) (O:cr pE 2 A lv L) (o:∀q,ay lv q->C<=q) (hL:L.length<=100) (hoff:off<cs.length)
  (hS:iZ rb b cs F (fun _=>True) A s' A') (hBn:Bl A' bn (pE x)) (e1:look e 41=lv) (e2:look e 47=Z6 (ZV ⟨bn,0,ZU⟩) 1 1) (e3:look e 38=Z7 (ZV ⟨b,off,ZU⟩)) (hK:RdK pE rb b C off cs F s' x L A N f):dJ P (rG rb b C) (tD V) e f A' N:=by
 unfold tD kW ka kb;rw[en];refine⟨?_,trivial⟩;simp only[EX.wp,iW,e1,e2];have hs:=hS.k.size;have n1:∀q,ay lv q->q≠rb:=fun q hq e=>by have:=o q hq;have:=hI.rC;omega
 have hC:=hI.hC;refine Ue (C:=C) (.inl rfl) (fun q hq=>.inr (.inr (o q hq))) dy iE (O.ai hS.k n1) o (by omega) (bk.bl hBn (l:=[x]) rfl (by simp[dy]) (by simp)) rfl (by omega) (by simp;omega) hS.B hI.bC hoff e3 rfl fun v' A2 O' o' B' K'=>?_;refine hK A2 v' B' O' (fun q hq=>?_) (hS.R.ai K' fun q hq e=>?_) ((hS.k.mono fun q _ e=>.inr (.inl e)).trans (K'.mono fun q _ hq=>?_))
 ·rcases o' q hq with h|h
  ·exact o q h
  ·omega
 ·rcases e with e|e
  ·exact hI.nF (e▸hq)
  ·have:=o q e;have:=hI.FC q hq;omega
 ·rcases hq with h|h
  ·exact .inl h
  ·exact .inr (.inr (o q h))
def adx {P:Program} {V:aH} (hs:rj P (V.f 115)) (hn:ew P (V.f 342)) {f:Fr} {A:Hp} {rb b C:Nat} {cs:List ZR} {F:Nat->Prop} {s:RS} {lv:ZR} {L:List x9} {Qb:Ex->Fr->Hp->Prop} (h4:f 4=Z7 (ZV ⟨rb,0,ZU⟩)) (h5:f 5=Z7 (ZV ⟨b,0,ZU⟩)) (hI:F6 rb b C cs F s A) (hc:cs[0]?=ZV lv) (O:cr cB 2 A lv L) (o:∀q,ay lv q->C<=q) (hL:L.length<=100)
  (hK:RdK cB rb b C 0 cs F (oJ s).2 (oJ s).1 L A (Qb .n) f):vc P (Kf V) Qb f A:=by
 unfold Kf kW ka kg;refine aZ (rG rb b C) ?_;have hoff:0<cs.length:=(List.getElem?_eq_some_iff.1 hc).1;have S0:=hI.s;have hW:rG rb b C rb:=.inr (.inl rfl);simp only[cQ,ek,PX.free,if_true,PX.pre,PX.val,k7,h4,h5,KN,fc,fQ,gQ,nV,true_and,and_true]
 repeat' (first|exact trivial|exact adv (off:=0) h5 hI O o hL hoff (by assumption) (by assumption) rfl rfl hK|refine iZ.rd (by assumption) hc rfl ?_ ?_|refine iZ.str hs (most:=12) (by assumption) hW (by omega) rfl (fun _ _=>?_) ?_|refine iZ.num hn (most:=63) (by assumption) hW (by omega) rfl (fun _ _=>?_) ?_|refine Ud rfl rfl rfl rfl rfl ?_|refine iZ.aX (by assumption) rfl (fun _ _ _ _=>?_) ?_)
def ady {P:Program} {V:aH} (hn:ew P (V.f 342)) {f:Fr} {A:Hp} {rb b C off:Nat} {cs:List ZR} {F:Nat->Prop} {s:RS} {lv:ZR} {L:List fC} {Qb:Ex->Fr->Hp->Prop} (h4:f 4=Z7 (ZV ⟨rb,0,ZU⟩)) (h7:f 7=Z7 (ZV ⟨b,off,ZU⟩)) (hI:F6 rb b C cs F s A) (hc:cs[off]?=ZV lv) (O:cr pE 2 A lv L) (o:∀q,ay lv q->C<=q) (hL:L.length<=100)
  (hK:RdK pE rb b C off cs F (fI s).2 (fI s).1 L A (Qb .n) f):vc P (Kg V) Qb f A:=by
 unfold Kg kW ka kg;refine aZ (rG rb b C) ?_;have hoff:off<cs.length:=(List.getElem?_eq_some_iff.1 hc).1;have S0:=hI.s;have hW:rG rb b C rb:=.inr (.inl rfl);simp only[cQ,ek,PX.free,if_true,PX.pre,PX.val,k7,iW,bD,rI,h4,h7,KN,fc,fQ,gQ,nV,true_and,and_true]
 repeat' (first|exact trivial|exact adw hI O o hL hoff (by assumption) (by assumption) rfl rfl rfl hK|refine iZ.rd (by assumption) hc rfl ?_ ?_|refine iZ.num hn (most:=10) (by assumption) hW (by omega) rfl (fun _ _=>?_) ?_|refine Ud rfl rfl rfl rfl rfl ?_|refine iZ.aX (by assumption) rfl (fun _ _ _ _=>?_) ?_)
def aiW (rb b C:Nat) (cs:List ZR) (F:Nat->Prop) (s':RS) (k:Int) (p:Nat->Bool) (lv:ZR) (L:List MV) (A:Hp) (N:Fr->Hp->Prop) (f:Fr):Prop:=∀A' uZ (x:MV),Bl A' b (cs.set 4 uZ)->cr cq 2 A' uZ (L++[x])->(∀q,ay uZ q->ay lv q\/A.size<=q)->jm F A' rb s'.1 s'.2->af (fun q=>q=b\/q=rb\/ay lv q) A A'->x.1=k->aR A' (Z0 #[gP x]) p->(∀q,aV (gP x) q->C<=q/\¬ay uZ q)->N f A'
def adz {P:Program} {V:aH} {f:Fr} {A A':Hp} {e:Env} {rb b C bn:Nat} {cs:List ZR} {F:Nat->Prop} {s s':RS} {lv:ZR} {L:List MV} {k:Int} {y:ZR} {p:Nat->Bool} {N:Fr->Hp->Prop} (h5:f 5=Z7 (ZV ⟨b,0,ZU⟩)) (hI:F6 rb b C cs F s A) (O:cr cq 2 A lv L) (o:∀q,ay lv q->C<=q) (hL:L.length<=100) (hoff:4<cs.length)
  (hS:iZ rb b cs F (agS A.size (Z0 #[y]) p) A s' A') (hBn:Bl A' bn [Z8 ZY k,y]) (e1:look e 57=lv) (e2:look e 63=Z6 (ZV ⟨bn,0,ZU⟩) 1 1) (hK:aiW rb b C cs F s' k p lv L A N f):dJ P (rG rb b C) (tE V) e f A' N:=by
 unfold tE kW ka kb kZ;rw[en];refine⟨?_,trivial⟩;simp only[EX.wp,iW,e1,e2];have hs:=hS.k.size;have n1:∀q,ay lv q->q≠rb:=fun q hq e=>by have:=o q hq;have:=hI.rC;omega
 have hC:=hI.hC;obtain⟨hSM,hfr⟩:=hS.y;obtain⟨x,rfl,hx⟩:∃x:MV,y=gP x/\x.1=k:=by
  have h0:=hSM;obtain⟨v,W,ev,hv⟩:=h0;simp only[Value.agg.injEq,Array.mk.injEq,List.cons.injEq,and_true]at ev;subst ev;obtain⟨a,c,e,_⟩:=hv.sl.mk;exact⟨(k,a,_,c),e,rfl⟩
 have hB0:Bl A' bn (cq x):=by unfold cq;rw[hx];exact hBn
 refine pj (C:=C) (.inl rfl) (fun q hq=>.inr (.inr (o q hq))) dG gD (O.ai hS.k n1) o (by omega) (bk.bl hB0 (l:=[x]) rfl (by simp[dG]) (by simp)) rfl (by omega) (by simp;omega) hS.B hI.bC hoff h5 rfl fun v' A2 O' o' B' K'=>?_;have nl:∀q,aV (gP x) q->¬ay lv q:=fun q hq h=>by have:=hfr q hq;have:=O.bo h;omega
 refine hK A2 v' x B' O' (fun q hq=>?_) (hS.R.ai K' fun q hq e=>?_) ((hS.k.mono fun q _ e=>.inr (.inl e)).trans (K'.mono fun q _ hq=>?_)) hx (hSM.ai K' fun q hq e=>?_) fun q hq=>⟨by have:=hfr q hq;omega,fun h=>?_⟩
 ·rcases o' q hq with h|h
  ·exact .inl h
  ·exact .inr (by omega)
 ·rcases e with e|e
  ·exact hI.nF (e▸hq)
  ·have:=o q e;have:=hI.FC q hq;omega
 ·rcases hq with h|h
  ·exact .inl h
  ·exact .inr (.inr h)
 ·rcases e with e|e
  ·have:=hfr q hq;have:=hI.bC;omega
  ·exact nl q hq e
 ·rcases o' q h with h|h
  ·exact nl q hq h
  ·have:=hSM.bo (k:=q) hq;omega
def adA {P:Program} {V:aH} (hn:ew P (V.f 342)) (hs:gG P (V.f 343)) {f:Fr} {A:Hp} {rb b C:Nat} {cs:List ZR} {F:Nat->Prop} {s:RS} {lv:ZR} {L:List MV} {Qb:Ex->Fr->Hp->Prop} (h4:f 4=Z7 (ZV ⟨rb,0,ZU⟩)) (h5:f 5=Z7 (ZV ⟨b,0,ZU⟩)) (hI:F6 rb b C cs F s A) (hc:cs[4]?=ZV lv) (O:cr cq 2 A lv L) (o:∀q,ay lv q->C<=q) (hL:L.length<=100)
  (hK:aiW rb b C cs F (oj s).2 (oj s).1.1 (bP (dg 10 (rdNum 10 s).2).1) lv L A (Qb .n) f):vc P (Kh V) Qb f A:=by
 unfold Kh kW ka kg kZ;refine aZ (rG rb b C) ?_;have hoff:4<cs.length:=(List.getElem?_eq_some_iff.1 hc).1;have S0:=hI.s;have hW:rG rb b C rb:=.inr (.inl rfl);simp only[cQ,ek,PX.free,if_true,PX.pre,PX.val,k7,h4,h5,KN,fc,fQ,gQ,nV,true_and,and_true]
 repeat' (first|exact trivial|exact adz h5 hI O o hL hoff (by assumption) (by assumption) rfl rfl hK|refine iZ.rd (by assumption) hc rfl ?_ ?_|refine iZ.num hn (most:=10) (by assumption) hW (by omega) rfl (fun _ _=>?_) ?_|refine iZ.set hs (most:=10) (by assumption) hW (by omega) rfl (fun _ _ _=>?_) ?_|refine Ud rfl rfl rfl rfl rfl ?_|refine iZ.aX (by assumption) rfl (fun _ _ _ _=>?_) ?_)
def iS {α:Type} {f:RS->α×RS} (hf:∀s,(f s).2.1.length<=s.1.length):∀(n:Nat) (s:RS),(bq f n s).2.1.length<=s.1.length
 |0,_=>ZH _
 |n+1,s=>Zp (hf _) (iS hf n s)
def FT (s:RS):(oJ s).2.1.length<=s.1.length:=Zp (iv _ _) (ru _ _)
def Dx (s:RS):(fI s).2.1.length<=s.1.length:=Zp (iv _ _) (iv _ _)
def adB (s:RS):(oj s).2.1.length<=s.1.length:=Zp (uY _ _) (iv _ _)
def xR {α:Type} {f:RS->α×RS} (hf:∀s,(f s).2.1.length<=s.1.length) (most:Nat) (s:RS):(cg most f s).2.1.length<=s.1.length:=Zp (iS hf _ _) (kh _ _).1
def Ph {α:Type} (enc:α->List ZR) (fr:RS->α×RS) (rb b off:Nat) (cs:List ZR) (F:Nat->Prop) (s0:RS) (A0:Hp) (k:Nat) (A:Hp):Prop:=∃lv,Bl A b (cs.set off lv)/\cr enc 2 A lv (bq fr k s0).1/\(∀q,ay lv q->A0.size<=q)/\jm F A rb (bq fr k s0).2.1 (bq fr k s0).2.2/\af (rG rb b A0.size) A0 A
structure PhC (rb b:Nat) (F:Nat->Prop) (s0:RS) (A0:Hp):Prop where
 l:s0.1.length<=1000000
 n:b≠rb
 bC:b<A0.size
 rC:rb<A0.size
 nF:¬F b
 FC:∀q,F q->q<A0.size
def Ph.zero {α:Type} {enc:α->List ZR} {fr:RS->α×RS} {rb b off:Nat} {cs:List ZR} {F:Nat->Prop} {s0:RS} {A0:Hp} (B:Bl A0 b cs) (hc:cs[off]?=ZV (Z6 ZU 0 0)) (R:jm F A0 rb s0.1 s0.2):Ph enc fr rb b off cs F s0 A0 0 A0:=
 ⟨Z6 ZU 0 0,by
  obtain⟨h,e⟩:=List.getElem?_eq_some_iff.1 hc;rw[<-e,List.set_getElem_self h];exact B,cr.nil _,fun q h=>h.elim,R,af.refl _ _⟩
def Ph.step {α:Type} {enc:α->List ZR} {fr:RS->α×RS} (hf:∀s,(fr s).2.1.length<=s.1.length) {rb b off:Nat} {cs:List ZR} {F:Nat->Prop} {s0:RS} {A0 A:Hp} {k:Nat} (c:PhC rb b F s0 A0) (h:Ph enc fr rb b off cs F s0 A0 k A) (hoff:off<cs.length) (hk:k<=100):
  ∃lv,F6 rb b A0.size (cs.set off lv) F (bq fr k s0).2 A/\(cs.set off lv)[off]?=ZV lv/\cr enc 2 A lv (bq fr k s0).1/\(∀q,ay lv q->A0.size<=q)/\(bq fr k s0).1.length<=100∧
   ∀{N:Fr->Hp->Prop} {f:Fr},(∀A',Ph enc fr rb b off cs F s0 A0 (k+1) A'->N f A')->RdK enc rb b A0.size off (cs.set off lv) F (fr (bq fr k s0).2).2 (fr (bq fr k s0).2).1 (bq fr k s0).1 A N f:=by
 obtain⟨lv,B,O,o,R,K⟩:=h;have hs:=K.size;refine⟨lv,⟨B,R,Zp (iS hf k s0) c.l,c.n,c.bC,c.rC,hs,c.nF,c.FC⟩,by simp[hoff],O,o,by rw[eV];exact hk,?_⟩;intro N f hN A' uZ B' O' o' R' K';refine hN A' ⟨uZ,?_,O',o',R',K.trans K'⟩
 rwa [List.set_set]at B'
def Uf {most:Nat} {s:RS} {n:Nat} (h:bP (dg most s).1 n=ZT):n<=most:=by
 unfold dg at h
 split at h
 ·rw[gF]at h;cases h
 ·split at h
  ·rw[gF]at h;cases h
  ·split at h
   ·rw[gF]at h;cases h
   ·split at h
    ·rw[gF]at h;cases h
    ·next hn=>
     apply Zn;intro hc;exact hn ⟨n,h,by omega⟩
def cr.phase {α:Type} {enc:α->List ZR} {rb b C:Nat} {A A':Hp} {v:ZR} {l:List α} (h:cr enc 2 A v l) {C0:Nat} (o:∀q,ay v q->C0<=q) (hb:b<C0) (hr:rb<C0) (hC:A.size<=C) (K:af (rG rb b C) A A'):cr enc 2 A' v l:=
 h.ai K fun q hq e=>by
  have:=o q hq;have:=h.bo hq;rcases e with e|e|e<;>omega
def tF (P:Program) (V:aH) (k:FuncId):Prop:=∀(l:List UInt8) (v:ZR) (H:Hp),bh V H->aP H v (w8 l)->l.length<=1000000->an P k #[v] H fun r H'=>
 ((∃F fv,nM F=ZT/\cN F=l/\r=ZZ #[fv,Z8 ZY 0]/\∀X W,af W H' X->(∀q,W q->q<H.size)->bZ X fv F)\/((∀F,nM F=ZT->cN F≠l)/\r=ZZ #[Z0 #[Z6 ZU 0 0,Z6 ZU 0 0,Z6 ZU 0 0,Z6 ZU 0 0,Z6 ZU 0 0],Z8 ZY 6]))/\af (fun _=>False) H H'
structure alS (P:Program) (V:aH):Prop where
 newr:tt P (V.f 108)
 cnt:pt P (V.f 113)
 str:rj P (V.f 115)
 num:ew P (V.f 342)
 set:gG P (V.f 343)
 fin:xI P (V.f 117)
 wg:fU P V (V.f 312)
 byt:rq P V (V.f 348)
 beq:rk P (V.f 344)
def Ug {P:Program} {V:aH} {k:FuncId} (hk:ak P k (Dv V) Dw 1) (c:alS P V):tF P V k:=by
 intro l v H hT hv hl;refine qI fun Q hQ=>?_;refine ah hk (args:=[_]) (by simp) ?_;unfold Dv Dw kA kB kF kC kD ke kG kH kK kM kO kS kT kU kV kc kd kf kg kY kZ;simp only[go_sem,Za,Zb];refine ax fun H1 b2 e1 z1 B1 K1=>?_;have bL:Bl H1 b2 [Z6 ZU 0 0,Z6 ZU 0 0,Z6 ZU 0 0,Z6 ZU 0 0,Z6 ZU 0 0]:=B1;have s1:=K1.size;simp only[go_sem,Za,Zb];refine(c.newr l v H1 (hv.ai K1 (by simp)) (by omega)).mono ?_;rintro r H2 ⟨rb,FF,rfl,R2,o2,K2⟩;have B2:=K2.bl bL id;have df:=K1.trans K2;have s2:=K2.size;have hrb:=o2 rb R2.at;have hF2:=R2.bound;have UK:=hF2 rb R2.at;rw[ae];simp only[go_sem,Za,Zb];refine ax fun H3 b5 e5 z5 B5 K5=>?_;have Av:Bl H3 b5 [Z6 ZU 0 0,Z6 ZU 0 0,Z6 ZU 0 0,Z6 ZU 0 0,Z6 ZU 0 0]:=B5;have B3:=K5.bl B2 id;have mD:=df.trans K5;have s5:=K5.size;have R3:jm FF H3 rb (l,(0:Int)).1 (l,(0:Int)).2:=R2.ai K5 (by simp);have nFb:¬FF b5:=fun h=>by have:=hF2 b5 h;omega
 have hl0:((l,(0:Int)):RS).1.length<=1000000:=hl;obtain⟨s0,ph⟩:∃s0:RS,s0=(l,0):=⟨_,rfl⟩
 rw[<-ph]at R3 hl0;simp only[go_sem,Za,Zb];refine(c.cnt FF rb s0 10 H3 R3 (by omega) (by omega)).mono ?_;rintro r A0 ⟨rfl,R4,K4⟩;obtain⟨hc1,hc2⟩:=kh 10 s0;have B54:=K4.bl Av (by omega);have s4:=K4.size;have P1:PhC rb b5 FF (bF 10 s0).2 A0:=⟨by omega,by omega,by omega,by omega,nFb,fun q hq=>by have:=hF2 q hq;omega⟩
 rw[ae];simp only[go_sem,Za,Zb];refine aF (bF 10 s0).1 [13,12] rfl rfl (by omega) (by rfl) (by rfl) (fun k g A=>Ph cB oJ rb b5 0 [Z6 ZU 0 0,Z6 ZU 0 0,Z6 ZU 0 0,Z6 ZU 0 0,Z6 ZU 0 0] FF (bF 10 s0).2 A0 k A) (Ph.zero B54 rfl R4) ?_ ?_
 ·intro k g A MO gi gn hP;obtain⟨lv,hI,hc,O,o,hL,hN⟩:=hP.step FT P1 (by simp) (by omega);refine adx c.str c.num (by rfl) (by rfl) hI hc O o hL (hN fun A' h=>?_);simp only[go_sem,Za,Zb,ae];exact h
 rintro g A1 -⟨sv,BS,OS,oS,RS1,KS⟩;have e1':(bq oJ (bF 10 s0).1 (bF 10 s0).2)=cg 10 oJ s0:=rfl;rw[e1']at OS RS1;have hs1:=xR FT 10 s0;generalize hst:cg 10 oJ s0=p1 at*;have sS:=KS.size;simp only[go_sem,Za,Zb];refine aG fun A2 b28 e28 z28 B28 K28=>?_;have alT:Bl A2 b28 [Z7 (ZV ⟨b5,1,ZU⟩),Z7 (ZV ⟨b5,2,ZU⟩),Z7 (ZV ⟨b5,3,ZU⟩)]:=B28;have s28:=K28.size;have BS2:Bl A2 b5 (sv::([Z6 ZU 0 0,Z6 ZU 0 0,Z6 ZU 0 0]++[Z6 ZU 0 0])):=K28.bl BS id;have OS2:=OS.ai K28 (by simp);have RS2:=RS1.ai K28 (by simp);clear B28;simp only[go_sem,Za,Zb];refine aF 3 [31,7,35,36,37,30] rfl rfl (by omega) (by rfl) (by rfl) (fun j g A=>∃u:List ZR,u.length=3/\Bl A b5 (sv::(u++[Z6 ZU 0 0]))/\(∀i<j,cr pE 2 A (u.getD i undef) ((bq (cg 20 fI) j p1.2).1.getD i [])/\∀q,ay (u.getD i undef) q->A0.size<=q)∧
   (∀i,j<=i->i<3->u.getD i undef=Z6 ZU 0 0)/\cr cB 2 A sv p1.1/\jm FF A rb (bq (cg 20 fI) j p1.2).2.1 (bq (cg 20 fI) j p1.2).2.2/\Bl A b28 [Z7 (ZV ⟨b5,1,ZU⟩),Z7 (ZV ⟨b5,2,ZU⟩),Z7 (ZV ⟨b5,3,ZU⟩)]/\af (rG rb b5 A2.size) A2 A)
  ⟨[Z6 ZU 0 0,Z6 ZU 0 0,Z6 ZU 0 0],rfl,BS2,fun i hi=>by omega,fun i h1 h2=>by
   have:i=0\/i=1\/i=2:=by omega
   rcases this with rfl|rfl|rfl<;>rfl,OS2,RS2,alT,af.refl _ _⟩ ?_ ?_
 ·rintro j g1 A hj gi gn ⟨u,ul,B,hdone,hrest,OSA,RA,agT,KA⟩;simp only[go_sem,Za,Zb,ae]at gi gn;have sA:=KA.size;have hp:cell A ⟨b28,j,ZU⟩=ZV (Z7 (ZV ⟨b5,1+j,ZU⟩)):=by
   rw[agT.cell];have:j=0\/j=1\/j=2:=by omega
   rcases this with rfl|rfl|rfl<;>rfl
  have hlj:=iS (xR Dx 20) j p1.2;generalize hS:(bq (cg 20 fI) j p1.2).2=sj at*;simp only[go_sem,Za,Zb,gi,al,hp];refine⟨by omega,(c.cnt FF rb sj 20 A RA (by omega) (by omega)).mono ?_⟩;rintro r A' ⟨rfl,RA',ya⟩;obtain⟨hd1,hd2⟩:=kh 20 sj;have sA':=ya.size;have B':=ya.bl B (by omega);have nrb:∀{q:Nat},A0.size<=q->q≠rb:=fun h e=>by omega
  have P2:PhC rb b5 FF (bF 20 sj).2 A':=⟨by omega,by omega,by omega,by omega,nFb,fun q hq=>by have:=hF2 q hq;omega⟩
  have Lm:(sv::(u++[Z6 ZU 0 0]))[1+j]?=ZV (Z6 ZU 0 0):=by
   rw[Xc,List.getElem?_cons_succ,YP (by omega),ZO (by omega)];have:=hrest j (ZH _) hj;rw[ZP,ZO (by omega)]at this;exact congrArg ZV this
  rw[ae];simp only[go_sem,Za,Zb];refine aF (bF 20 sj).1 [37,36] rfl rfl (by omega) (by rfl) (by rfl) (fun k g X=>Ph pE fI rb b5 (1+j) (sv::(u++[Z6 ZU 0 0])) FF (bF 20 sj).2 A' k X) (Ph.zero B' Lm RA') ?_ ?_
  ·intro k g X MO gi gn hP;obtain⟨lv,hI,hc,O,o,hL,hN⟩:=hP.step Dx P2 (by simp[ul];omega) (by omega);refine ady c.num (by rfl) (by rfl) hI hc O o hL (hN fun A' h=>?_);simp only[go_sem,Za,Zb,ae];exact h
  ·rintro g X -⟨lv,BX,OX,oX,RX,KX⟩;have e2:(bq fI (bF 20 sj).1 (bF 20 sj).2)=cg 20 fI sj:=rfl;rw[e2]at OX RX;have yd:(sv::(u++[Z6 ZU 0 0])).set (1+j) lv=sv::(u.set j lv++[Z6 ZU 0 0]):=by
    rw[Xc,List.set_cons_succ,List.set_append,if_pos (by omega)]
   rw[yd]at BX;have alU:¬(rG rb b5 A'.size b28):=fun h=>by
    have:=agT.lt;rcases h with h|h|h<;>omega
   have KAX:af (rG rb b5 A2.size) A X:=(ya.mono fun q _ e=>.inr (.inl e)).trans (KX.mono fun q _ e=>by
    rcases e with e|e|e
    ·exact .inl e
    ·exact .inr (.inl e)
    ·exact .inr (.inr (by omega)))
   have ot:∀{α:Type} {enc:α->List ZR} {v:ZR} {l:List α},cr enc 2 A v l->(∀q,ay v q->A0.size<=q)->cr enc 2 X v l:=fun h o=>
    (h.ai ya fun q hq e=>nrb (o q hq) e).phase o (by omega) (by omega) (ZH _) KX
   simp only[go_sem,Za,Zb,ae];refine⟨u.set j lv,by simp[ul],BX,fun i hi=>?_,fun i h1 h2=>?_,ot OSA oS,?_,(KX.bl (ya.bl agT (by omega)) alU),KA.trans KAX⟩
   ·by_cases e:i=j
    ·subst e;have eg:(u.set i lv).getD i undef=lv:=by rw[ZP,List.getElem?_set_self (by omega)];rfl
     have er:(bq (cg 20 fI) (i+1) p1.2).1.getD i []=(cg 20 fI sj).1:=by
      rw[bq,hS];simp only;rw[ZP,List.getElem?_append_right (by rw[eV];omega),eV,Nat.sub_self];rfl
     rw[eg,er];exact⟨OX,fun q hq=>by have:=oX q hq;omega⟩
    ·have iU:i<j:=by omega
     have eg:(u.set j lv).getD i undef=u.getD i undef:=by rw[ZP,Yw (by omega),<-ZP]
     have er:(bq (cg 20 fI) (j+1) p1.2).1.getD i []=(bq (cg 20 fI) j p1.2).1.getD i []:=by
      rw[bq];simp only;rw[ZP,YP (by rw[eV];omega),<-ZP]
     rw[eg,er];exact⟨ot (hdone i iU).1 (hdone i iU).2,(hdone i iU).2⟩
   ·have eg:(u.set j lv).getD i undef=u.getD i undef:=by rw[ZP,Yw (by omega),<-ZP]
    rw[eg];exact hrest i (by omega) h2
   ·rw[bq,hS];exact RX
 ·rintro g1 A -⟨u,ul,B,hdone,-,OSA,RA,-,KA⟩;have sA:=KA.size;obtain⟨bv,dv,av,rfl⟩:∃bv dv av,u=[bv,dv,av]:=by
   match u,ul with
   |[x,y,z],_=>exact⟨x,y,z,rfl⟩
  have B:Bl A b5 [sv,bv,dv,av,Z6 ZU 0 0]:=B;obtain⟨Ob,ob⟩:=hdone 0 (by omega);obtain⟨Od,od⟩:=hdone 1 (by omega);obtain⟨Oa,oa⟩:=hdone 2 (by omega);have hl3:=iS (xR Dx 20) 3 p1.2;have hF0:pw s0=(⟨p1.1,(bq (cg 20 fI) 3 p1.2).1.getD 0 [],(bq (cg 20 fI) 3 p1.2).1.getD 1 [],(bq (cg 20 fI) 3 p1.2).1.getD 2 [],(cg 20 oj (bq (cg 20 fI) 3 p1.2).2).1⟩,(cg 20 oj (bq (cg 20 fI) 3 p1.2).2).2):=by
   rw[<-hst];rfl
  generalize hG0:(bq (cg 20 fI) 3 p1.2).1.getD 0 []=g0 at*;generalize hG1:(bq (cg 20 fI) 3 p1.2).1.getD 1 []=g1 at*;generalize hG2:(bq (cg 20 fI) 3 p1.2).1.getD 2 []=g2 at*;generalize hS3:(bq (cg 20 fI) 3 p1.2).2=s3 at*;have Ob:cr pE 2 A bv g0:=Ob;have Od:cr pE 2 A dv g1:=Od;have Oa:cr pE 2 A av g2:=Oa;simp only[go_sem,Za,Zb];refine(c.cnt FF rb s3 20 A RA (by omega) (by omega)).mono ?_;rintro r A' ⟨rfl,RA',ya⟩;obtain⟨hd1,hd2⟩:=kh 20 s3;have sA':=ya.size;have B':=ya.bl B (by omega);have hlc:((bF 20 s3).2).1.length<=1000000:=by omega
  rw[ae];simp only[go_sem,Za,Zb];refine aF (bF 20 s3).1 [55,54] rfl rfl (by omega) (by rfl) (by rfl) (fun k g X=>∃mv ms,Bl X b5 [sv,bv,dv,av,mv]/\cr cq 2 X mv ms/\(∀q,ay mv q->A'.size<=q)/\gY X ms (bq oj k (bF 20 s3).2).1/\(∀x∈ms,∀q,aV (gP x) q->A'.size<=q/\¬ay mv q)/\jm FF X rb (bq oj k (bF 20 s3).2).2.1 (bq oj k (bF 20 s3).2).2.2/\af (rG rb b5 A'.size) A' X)
   ⟨_,[],B',cr.nil _,fun q h=>h.elim,⟨rfl,fun i h=>by simp at h⟩,by simp,RA',af.refl _ _⟩ ?_ ?_
  ·rintro k g X MO gi gn ⟨mv,ms,BX,OX,oX,MX,nX,RX,KX⟩;have sX:=KX.size;have hlk:=iS adB k (bF 20 s3).2;have hI:F6 rb b5 A'.size [sv,bv,dv,av,mv] FF (bq oj k (bF 20 s3).2).2 X:=⟨BX,RX,by omega,by omega,by omega,by omega,sX,nFb,fun q hq=>by have:=hF2 q hq;omega⟩
   have mb:ms.length<=100:=by rw[MX.len,eV];omega
   refine adA c.num c.set (by rfl) (by rfl) hI rfl OX oX mb ?_;intro Y mv' x BY OY oY RY KY hx1 hxS hxn;simp only[go_sem,Za,Zb,ae];have hle:∀n,bP (dg 10 (rdNum 10 (bq oj k (bF 20 s3).2).2).2).1 n=ZT->n<64:=fun n hn=>by
    have:=Uf hn;omega
   refine⟨mv',ms++[x],BY,OY,fun q hq=>?_,?_,fun z hz q hq=>?_,RY,KX.trans (KY.mono fun q _ e=>?_)⟩
   ·rcases oY q hq with h|h
    ·exact oX q h
    ·omega
   ·refine gY.snoc (MX.ai KY fun z hz q hq e=>?_) hx1 (hxS.congr fun n=>(MD hle n).symm);obtain⟨n1,n2⟩:=nX z hz q hq;rcases e with e|e|e
    ·omega
    ·omega
    ·exact n2 e
   ·rcases List.mem_append.1 hz with h|h
    ·obtain⟨n1,n2⟩:=nX z h q hq;refine⟨n1,fun ho=>?_⟩;rcases oY q ho with h'|h'
     ·exact n2 h'
     ·obtain⟨i,hi,rfl⟩:=List.getElem_of_mem h;have:=(MX.at_ i hi (by rw[<-MX.len];exact hi)).2.bo (k:=q) hq;omega
    ·simp only[List.mem_singleton]at h;subst h;exact hxn q hq
   ·rcases e with e|e|e
    ·exact .inl e
    ·exact .inr (.inl e)
    ·exact .inr (.inr (oX q e))
  ·rintro g Z -⟨mv,ms,BZ,OZ,oZ,MZ,nZ,RZ,KZ⟩;have e3:(bq oj (bF 20 s3).1 (bF 20 s3).2)=cg 20 oj s3:=rfl;rw[e3]at MZ RZ;have nrb:∀{q:Nat},A0.size<=q->q≠rb:=fun h e=>by omega
   have ot:∀{α:Type} {enc:α->List ZR} {v:ZR} {l:List α} {Y:Hp},af (fun q=>q=b2\/q<H.size) Z Y->cr enc 2 A v l->(∀q,ay v q->A0.size<=q)->bk enc 2 Y v l:=fun K h o=>
    (((h.ai ya fun q hq e=>nrb (o q hq) e).phase o (by omega) (by omega) (ZH _) KZ).ai K fun q hq e=>by have:=o q hq;omega).sl
   have aiX:∀Y,af (fun q=>q=b2\/q<H.size) Z Y->bZ Y (Z0 #[sv,bv,dv,av,mv]) (pw s0).1:=fun Y K=>by
    rw[hF0];exact⟨sv,bv,dv,av,mv,ms,rfl,ot K OSA oS,ot K Ob ob,ot K Od od,ot K Oa oa,(OZ.ai K fun q hq e=>by have:=oZ q hq;omega).sl,MZ.ai K fun x hx q hq e=>by have:=(nZ x hx q hq).1;omega⟩
   have hPF:=aiX Z (af.refl _ _);have sZ:=KZ.size;have amC:H.size<=rb:=by omega
   have w:∀(C q:Nat),H.size<=C->q<H.size->¬rG rb b5 C q:=fun C q h1 h2 e=>by
    rcases e with e|e|e<;>omega
   have KHZ:af (fun _=>False) H Z:=(((((mD.trans' K4 fun q hq e=>by omega).trans' KS fun q hq e=>w _ q (by omega) hq e).trans K28).trans' KA fun q hq e=>w _ q (by omega) hq e).trans' ya fun q hq e=>by omega).trans' KZ fun q hq e=>w _ q (by omega) hq e;have hTZ:=hT.ai KHZ;have hsn:(pw s0).2=(cg 20 oj s3).2:=by rw[hF0]
   have hrt:∀G,nM G=ZT->cN G=l->pw s0=(G,([],0)):=fun G hG he=>by
    rw[ph,<-he];have:=Dq (fO hG) []
    rwa [YY]at this
   have w2:∀C,H1.size<=C->¬rG rb b5 C b2:=fun C h e=>by
    rcases e with e|e|e<;>omega
   have B2Z:=KZ.bl (ya.bl (KA.bl (K28.bl (KS.bl (K4.bl B3 (by omega)) (w2 _ (by omega))) (by simp)) (w2 _ (by omega))) (by omega)) (w2 _ (by omega));have t2:=B2Z.bG (o:=0) (n:=5) (by simp);have hFs:=RZ.bound;simp only[go_sem,Za,Zb];refine(c.fin FF rb _ _ Z RZ).mono ?_;rintro r Z1 ⟨rfl,rfl⟩;rw[<-hsn];have bad:∀A',af (fun _=>False) Z1 A'->(∀G,nM G=ZT->cN G≠l)->(bG A' ⟨b2,0,ZU⟩ 5/\bM #[Value.slice ZU 0 0,Z6 ZU 0 0,Z6 ZU 0 0,Z6 ZU 0 0,Z6 ZU 0 0])/\(aL (aB A' ⟨b2,0,ZU⟩ [Z6 ZU 0 0,Z6 ZU 0 0,Z6 ZU 0 0,Z6 ZU 0 0,Z6 ZU 0 0]) (Z7 (ZV ⟨b2,0,ZU⟩)) 5).isSome=ZT∧
     Q (ZZ #[.agg ((aL (aB A' ⟨b2,0,ZU⟩ [Z6 ZU 0 0,Z6 ZU 0 0,Z6 ZU 0 0,Z6 ZU 0 0,Z6 ZU 0 0]) (Z7 (ZV ⟨b2,0,ZU⟩)) 5).getD #[]),Z8 ZY 6]) (aB A' ⟨b2,0,ZU⟩ [Z6 ZU 0 0,Z6 ZU 0 0,Z6 ZU 0 0,Z6 ZU 0 0,Z6 ZU 0 0]):=fun A' ya h=>
    G6 (R:=fun v H'=>Q (ZZ #[v,Z8 ZY 6]) H') (ya.bl B2Z (by simp)) rfl rfl rfl fun H' z' B' K'=>by
     rw[hQ];exact⟨.inr ⟨h,rfl⟩,(KHZ.trans ya).trans' K' fun q hq e=>by omega⟩
   have QT:([sv,bv,dv,av,mv].all fun v=>v.oneCell')=ZT:=by
    simp only[Yc,Xs,Wu,ZJ];exact⟨aK OSA.sl.aq,aK Ob.sl.aq,aK Od.sl.aq,aK Oa.sl.aq,aK OZ.sl.aq⟩
   rw[ae]
   by_cases hE:rh (pw s0).2=0
   case neg=>
    have d1:((rh (pw s0).2)!=0)=ZT:=bne_iff_ne.2 hE;simp only[go_sem,Za,Zb,ae,d1,false_imp_iff,forall_const,cR];exact bad Z1 (af.refl _ _) fun G hG he=>by
     rw[hrt G hG he]at hE;exact hE rfl
   have d1:((rh (pw s0).2)!=0)=ZS:=by rw[hE];rfl
   simp-implicitDefEqProofs only[go_sem,↓reduceIte,Za,Zb,Zc,reduceCtorEq,d1,BZ.aL 5 rfl,forall_const];refine(c.wg (pw s0).1 _ Z1 hTZ hPF).mono ?_;rintro r Z2 ⟨rfl,uQ⟩;rw[ae]
   cases hok:nM (pw s0).1 with
   |false=>
    simp only[go_sem,Za,Zb,ae,ZB,false_imp_iff,forall_const,cR];exact bad Z2 uQ fun G hG he=>by
     rw[hrt G hG he]at hok;simp only at hok;rw[hG]at hok
     cases hok
   |true=>
    have BZ2:=uQ.bl BZ (by simp);simp-implicitDefEqProofs only[go_sem,↓reduceIte,Za,Zb,Zc,reduceCtorEq,ZE,BZ2.aL 5 rfl,forall_const];refine(c.byt (pw s0).1 _ Z2 (hTZ.ai uQ) (hPF.aj uQ) hok).mono ?_;rintro r Z3 ⟨O3,o3,KZ3⟩;have F4:=(KHZ.trans uQ).trans KZ3;rw[ae];simp-implicitDefEqProofs only[go_sem,↓reduceIte,Za,Zb,Zc,reduceCtorEq,forall_const];refine(c.beq _ l _ v Z3 O3.sl (hv.ai F4 (by simp))).mono ?_;rintro r Z4 ⟨rfl,rfl⟩;rw[ae]
    by_cases heq:cN (pw s0).1=l
    ·have BZ4:=(uQ.trans KZ3).bl BZ (by simp);have Lw:=(uQ.trans KZ3).bl B2Z (by simp);have t24:=Lw.bG (o:=0) (n:=5) (by simp);simp only[go_sem,Za,Zb,ae,heq,decide_true,ZE,BZ4.aL 5 rfl,forall_const];refine(fun h=>⟨⟨h.1.1,h.1.2⟩,h.2⟩) (G6 (cs:=[sv,bv,dv,av,mv]) (R:=fun v H'=>Q (ZZ #[v,Z8 ZY 0]) H') Lw rfl rfl QT fun H' z' B' K'=>?_);rw[hQ];exact⟨.inl ⟨(pw s0).1,_,hok,heq,rfl,fun X W KX hW=>aiX _ (((uQ.trans KZ3).any.trans (K'.mono fun q _ e=>.inl e)).trans (KX.mono fun q _ e=>.inr (hW q e)))⟩,F4.trans' K' fun q hq e=>by omega⟩
    ·have d4:ZQ (cN (pw s0).1=l)=ZS:=decide_eq_false heq;simp only[go_sem,Za,Zb,ae,d4,ZB,false_imp_iff,forall_const,cR];exact bad Z4 (uQ.trans KZ3) fun G hG he=>by
      rw[hrt G hG he]at heq;exact heq he
def FQ.smK {F:cf} (h:FQ F):SmK 1000 F:=⟨by have:=h.st.1;omega,by have:=h.be.1;omega,by have:=h.di.1;omega,by have:=h.sa.1;omega,by have:=h.mo.1;omega⟩
def bZ.cs {H:Hp} {v:ZR} {F:cf} (h:bZ H v F):∃cs:List ZR,v=.agg cs.toArray/\cs.length=5/\(cs.all fun v=>v.oneCell')=ZT/\aq (cs.getD 0 undef)/\aW (cs.getD 0 undef)=F.st.length/\cs[0]?=ZV (cs.getD 0 undef):=by
 obtain⟨s,b,d,a,m,ms,rfl,h1,h2,h3,h4,h5,_⟩:=h;refine⟨[s,b,d,a,m],rfl,rfl,?_,h1.aq,h1.len,rfl⟩;simp only[Yc,Xs,Wu,ZJ];exact⟨aK h1.aq,aK h2.aq,aK h3.aq,aK h4.aq,aK h5.aq⟩
end Go.Mg
