/- Lemmas of ours. No conditions. -/
import Derived.Test.YtoclemmcphgikaaGreatDoorMgX6
open Nat renaming reduceEqDiff→Za,reduceAdd→Zb,reduceMul→Zc
set_option linter.all false
set_option maxRecDepth 100000
namespace Go.Mg
open Go Go.RowKit
def rG (ι:aG):T:=
 (.wcons (.t 22) .none (.app false (ι.t 297) 2 24 #[.string ⟨#[]⟩,.int .i64 0] (.t 15) (.t 21)) (kW 23 (.fa 0 (.v 5)) (.wcons .no .none (.st (.t 23) (.t 22)) .done .wnil)) .wnil)
def rH (ι:aG):T:=
 (.wcons (.t 48) .none (.app false (ι.t 194) 2 16 #[.int .i64 0,.int .i64 0] (.t 41) (.t 47)) (kW 49 (.nil (.t 38)) (.wcons .no .none (.st (.t 49) (.t 48)) .done .wnil)) .wnil)
def rI (ι:aG):T:=
 (.wcons (.t 64) .none (.app false (ι.t 298) 2 32 #[.int .i64 0,kZ] (.t 57) (.t 63)) (kW 65 (.fa 4 (.v 5)) (.wcons .no .none (.st (.t 65) (.t 64)) .done .wnil)) .wnil)
def Ig (ι:aG):S:=
 (.dr (kW 14 (.fa 0 (.v 5)) (kW 16 (.mv (.v 4)) (kW 18 (.mv (.v 4)) (.wcons (.t 15) .none (.rd (.ld (.t 14))) (.wcons (.t 17) .none (.call (ι.f 115) [.t 16,.c (.int .i64 12)]) (.wcons (.t 19) .none (.call (ι.f 342) [.t 18,.c (.int .i64 63)]) (kW 20 (.m (.bld #[.string ⟨#[]⟩,.int .i64 0] [(0,(1,.t 17)),(1,(1,.t 19))])) (.wcons (.t 21) .none (.aV (ι.t 297) 2 1 [.t 20]) (rG ι) .wnil)) .wnil) .wnil) (.wcons (.t 17) .none (.call (ι.f 115) [.t 16,.c (.int .i64 12)]) (.wcons (.t 15) .none (.rd (.ld (.t 14))) (.wcons (.t 19) .none (.call (ι.f 342) [.t 18,.c (.int .i64 63)]) (kW 20 (.m (.bld #[.string ⟨#[]⟩,.int .i64 0] [(0,(1,.t 17)),(1,(1,.t 19))])) (.wcons (.t 21) .none (.aV (ι.t 297) 2 1 [.t 20]) (rG ι) .wnil)) .wnil) (.wcons (.t 19) .none (.call (ι.f 342) [.t 18,.c (.int .i64 63)]) (kW 20 (.m (.bld #[.string ⟨#[]⟩,.int .i64 0] [(0,(1,.t 17)),(1,(1,.t 19))])) (.wcons (.t 15) .none (.rd (.ld (.t 14))) (.wcons (.t 21) .none (.aV (ι.t 297) 2 1 [.t 20]) (rG ι) .wnil) (.wcons (.t 21) .none (.aV (ι.t 297) 2 1 [.t 20]) (.wcons (.t 15) .none (.rd (.ld (.t 14))) (rG ι) .wnil) .wnil))) .wnil)) .wnil))))))
def Ih (ι:aG):S:=
 (.dr (kW 38 (.mv (.v 7)) (kW 39 (.mv (.v 7)) (kW 40 (.nil (.t 39)) (kW 42 (.mv (.v 4)) (kW 44 (.mv (.v 4)) (.wcons (.t 41) .none (.rd (.ld (.t 40))) (.wcons (.t 43) .none (.call (ι.f 342) [.t 42,.c (.int .i64 10)]) (.wcons (.t 45) .none (.call (ι.f 342) [.t 44,.c (.int .i64 10)]) (kW 46 (.m (.bld #[.int .i64 0,.int .i64 0] [(0,(1,.t 43)),(1,(1,.t 45))])) (.wcons (.t 47) .none (.aV (ι.t 194) 2 1 [.t 46]) (rH ι) .wnil)) .wnil) .wnil) (.wcons (.t 43) .none (.call (ι.f 342) [.t 42,.c (.int .i64 10)]) (.wcons (.t 41) .none (.rd (.ld (.t 40))) (.wcons (.t 45) .none (.call (ι.f 342) [.t 44,.c (.int .i64 10)]) (kW 46 (.m (.bld #[.int .i64 0,.int .i64 0] [(0,(1,.t 43)),(1,(1,.t 45))])) (.wcons (.t 47) .none (.aV (ι.t 194) 2 1 [.t 46]) (rH ι) .wnil)) .wnil) (.wcons (.t 45) .none (.call (ι.f 342) [.t 44,.c (.int .i64 10)]) (kW 46 (.m (.bld #[.int .i64 0,.int .i64 0] [(0,(1,.t 43)),(1,(1,.t 45))])) (.wcons (.t 41) .none (.rd (.ld (.t 40))) (.wcons (.t 47) .none (.aV (ι.t 194) 2 1 [.t 46]) (rH ι) .wnil) (.wcons (.t 47) .none (.aV (ι.t 194) 2 1 [.t 46]) (.wcons (.t 41) .none (.rd (.ld (.t 40))) (rH ι) .wnil) .wnil))) .wnil)) .wnil))))))))
def Ii (ι:aG):S:=
 (.dr (kW 56 (.fa 4 (.v 5)) (kW 58 (.mv (.v 4)) (kW 60 (.mv (.v 4)) (.wcons (.t 57) .none (.rd (.ld (.t 56))) (.wcons (.t 59) .none (.call (ι.f 342) [.t 58,.c (.int .i64 10)]) (.wcons (.t 61) .none (.call (ι.f 343) [.t 60,.c (.int .i64 10)]) (kW 62 (.m (.bld #[.int .i64 0,kZ] [(0,(1,.t 59)),(1,(1,.t 61))])) (.wcons (.t 63) .none (.aV (ι.t 298) 2 1 [.t 62]) (rI ι) .wnil)) .wnil) .wnil) (.wcons (.t 59) .none (.call (ι.f 342) [.t 58,.c (.int .i64 10)]) (.wcons (.t 57) .none (.rd (.ld (.t 56))) (.wcons (.t 61) .none (.call (ι.f 343) [.t 60,.c (.int .i64 10)]) (kW 62 (.m (.bld #[.int .i64 0,kZ] [(0,(1,.t 59)),(1,(1,.t 61))])) (.wcons (.t 63) .none (.aV (ι.t 298) 2 1 [.t 62]) (rI ι) .wnil)) .wnil) (.wcons (.t 61) .none (.call (ι.f 343) [.t 60,.c (.int .i64 10)]) (kW 62 (.m (.bld #[.int .i64 0,kZ] [(0,(1,.t 59)),(1,(1,.t 61))])) (.wcons (.t 57) .none (.rd (.ld (.t 56))) (.wcons (.t 63) .none (.aV (ι.t 298) 2 1 [.t 62]) (rI ι) .wnil) (.wcons (.t 63) .none (.aV (ι.t 298) 2 1 [.t 62]) (.wcons (.t 57) .none (.rd (.ld (.t 56))) (rI ι) .wnil) .wnil))) .wnil)) .wnil))))))
def BO (ι:aG):S:=
 kY [.e (.v 2) (.new (ι.t 296) #[kZ,kZ,kZ,kZ,kZ]),kC 3 (.int .i64 0)] (kY [kA 8 0,.e (.t 9) (.call (ι.f 108) [.t 8]),kB 4 9] (kY [.e (.v 5) (.new (ι.t 296) #[kZ,kZ,kZ,kZ,kZ])] (.seq (kY [kA 10 4,.e (.v 11) (.call (ι.f 113) [.t 10,.c (.int .i64 10)]),kC 12 (.int .i64 0)] (.blk 0 (.loop (kY [kH 13 12 11] (.seq (.ite (.v 13) .skip (.exit 0)) (.seq (.blk 1 (Ig ι)) (.reg [ke 24 12,kB 12 24]))))))) (.seq (kY [kG 25 1 5,kG 26 2 5,kG 27 3 5,.e (.v 28) (.aV (ι.t 350) 1 3 [.t 25,.t 26,.t 27]),kO 29 28,kC 30 (.int .i64 0)] (.blk 2 (.loop (kY [kH 31 30 29] (.seq (.ite (.v 31) .skip (.exit 2)) (.seq (.blk 3 (kY [kK 32 1 28 30,kD 33 32,kB 7 33] (kY [kA 34 4,.e (.v 35) (.call (ι.f 113) [.t 34,.c (.int .i64 20)]),kC 36 (.int .i64 0)] (.blk 4 (.loop (kY [kH 37 36 35] (.seq (.ite (.v 37) .skip (.exit 4)) (.seq (.blk 5 (Ih ι)) (.reg [ke 50 36,kB 36 50]))))))))) (.reg [ke 51 30,kB 30 51]))))))) (.seq (kY [kA 52 4,.e (.v 53) (.call (ι.f 113) [.t 52,.c (.int .i64 20)]),kC 54 (.int .i64 0)] (.blk 6 (.loop (kY [kH 55 54 53] (.seq (.ite (.v 55) .skip (.exit 6)) (.seq (.blk 7 (Ii ι)) (.reg [ke 66 54,kB 54 66]))))))) (.seq (kY [kA 67 4,.e (.t 68) (.call (ι.f 117) [.t 67]),kU 69 (.cm .neq .i64 (.t 68) (.c (.int .i64 0))),kF 70 69,kT 71 70 false (.m (.ldn 5 (.v 5))),.ge (.t 72) (.t 70) false (.call (ι.f 312) [.t 71]),kT 73 70 false (.not (.t 72)),kU 74 (.pick (.t 70) (.c (.bool true)) (.t 73)),kF 75 74,kT 76 75 false (.m (.ldn 5 (.v 5))),.ge (.t 77) (.t 75) false (.call (ι.f 348) [.t 76]),kS 78 75 false 0,.ge (.t 79) (.t 75) false (.call (ι.f 344) [.t 77,.t 78]),kT 80 75 false (.not (.t 79)),kV 81 (.pick (.t 75) (.c (.bool true)) (.t 80))] (.ite (.v 81) (kY [kU 82 (.m (.bld #[kZ,kZ,kZ,kZ,kZ] [])),.e .no (.stn 5 (.v 2) (.t 82)),kC 3 (.int .i64 6)] .ret) .skip)) (kY [kM 83 5 5,.e .no (.stn 5 (.v 2) (.t 83)),kC 3 (.int .i64 0)] .ret)))))))
def BQ:List RV:=[.cn 2 5,.t 3]
structure iv (rb b:Nat) (cs:List Value) (F:Nat->Prop) (Y:Hp->Prop) (A0:Hp) (s:RS) (A:Hp):Prop where
 k:af (fun q=>q=rb) A0 A
 B:Bl A b cs
 R:iK F A rb s.1 s.2
 l:s.1.length<=1000000
 n:b≠rb
 y:Y A
 st:∀A A',af (fun _=>False) A A'->Y A->Y A'
section
variable {P:Program} {W:Nat->Prop} {rb b:Nat} {cs:List Value} {F:Nat->Prop} {A0 A:Hp} {s:RS} {e:Env} {f:Fr} {Q:Fr->Hp->Prop} {t m:T} {d a:Nat} {Y:Hp->Prop}
theorem iv.rd (h:iv rb b cs F Y A0 s A) {off:Nat} {lv:Value} (hc:cs[off]?=some lv) (he:look e a=.pointer (some ⟨b,off,none⟩)) (hK:dg P W t ((d,lv)::e) f A Q) (hm:dg P W m e f A Q):dg P W (.wcons (.t d) none (.rd (.ld (.t a))) t m) e f A Q:=by
 have c0:cell A ⟨b,off,none⟩=some lv:=by rw[h.B.cell];exact hc
 rw[dK];refine⟨?_,hm⟩;simp only[EX.wp,PX.pre,PX.val,il,he,yq,c0,Option.isSome_some,Option.getD_some,aJ,fZ,mN,true_and];exact⟨af.refl _ _,hK⟩
theorem pP (most:Nat) (s:RS):(bB most s).2.1.length<=s.1.length:=by
 unfold bB
 split
 ·exact Nat.le_refl _
 ·split
  ·exact Nat.le_refl _
  ·next v r h=>
   have:=(jt _ _ _ _ _ h).1
   split
   ·exact Nat.le_refl _
   ·split
    ·exact Nat.le_refl _
    ·simp only[List.length_drop];omega
theorem gK (most:Nat) (s:RS):(rdNum most s).2.1.length<=s.1.length:=by
 unfold rdNum
 split
 ·exact Nat.le_refl _
 ·split
  ·exact Nat.le_refl _
  ·next v r h=>
   have:=(jt _ _ _ _ _ h).1
   split
   ·exact Nat.le_refl _
   ·simp only;omega
theorem jz (most:Nat) (s:RS):(bF most s).2.1.length<=s.1.length/\(bF most s).1<=most:=by
 unfold bF
 split
 ·exact⟨Nat.le_refl _,Nat.zero_le _⟩
 ·split
  ·exact⟨Nat.le_refl _,Nat.zero_le _⟩
  ·next v r h=>
   have:=(jt _ _ _ _ _ h).1
   split
   ·exact⟨Nat.le_refl _,Nat.zero_le _⟩
   ·simp only;omega
theorem tG (most:Nat) (s:RS):(cO most s).2.1.length<=s.1.length:=by
 have:=pP 512 s;unfold cO
 split
 ·exact Nat.le_refl _
 ·split
  ·exact this
  ·split
   ·exact Nat.le_refl _
   ·split
    ·exact Nat.le_refl _
    ·exact this
theorem iv.next (h:iv rb b cs F Y A0 s A) {s':RS} {A':Hp} (hl:s'.1.length<=s.1.length) (R:iK F A' rb s'.1 s'.2) (k:af (fun q=>q=rb) A A') {Y':Hp->Prop} (y:Y' A') (st:∀A A',af (fun _=>False) A A'->Y' A->Y' A'):iv rb b cs F Y' A0 s' A':=
 ⟨h.k.trans k,k.bl h.B h.n,R,Nat.le_trans hl h.l,h.n,y,st⟩
theorem iv.str {j:FuncId} (hj:pN P j) (h:iv rb b cs F (fun _=>True) A0 s A) (hW:W rb) {most:Nat} (hm:most<=1000000000) (he:look e a=.pointer (some ⟨rb,0,none⟩))
  (hK:∀A',iv rb b cs F (fun _=>True) A0 (bB most s).2 A'->dg P W t ((d,.string ⟨(bB most s).1.toArray⟩)::e) f A' Q) (wR:dg P W m e f A Q):dg P W (.wcons (.t d) none (.call j [.t a,.c (.int .i64 (most:Int))]) t m) e f A Q:=by
 rw[dK];refine⟨?_,wR⟩;simp only[EX.wp,List.map_cons,List.map_nil,il,rd_c,he];refine(hj F rb s most A h.R (Nat.le_trans h.l (by omega)) hm).mono ?_;rintro x A' ⟨rfl,R,k⟩;exact⟨k.mono fun q _ e=>by rw[e];exact hW,hK A' (h.next (pP most s) R k trivial fun _ _ _ _=>trivial)⟩
theorem iv.num {j:FuncId} (hj:dN P j) (h:iv rb b cs F (fun _=>True) A0 s A) (hW:W rb) {most:Nat} (hm:most<=1000000000) (he:look e a=.pointer (some ⟨rb,0,none⟩))
  (hK:∀A',iv rb b cs F (fun _=>True) A0 (rdNum most s).2 A'->dg P W t ((d,.int .i64 ((rdNum most s).1:Int))::e) f A' Q) (wR:dg P W m e f A Q):dg P W (.wcons (.t d) none (.call j [.t a,.c (.int .i64 (most:Int))]) t m) e f A Q:=by
 rw[dK];refine⟨?_,wR⟩;simp only[EX.wp,List.map_cons,List.map_nil,il,rd_c,he];refine(hj F rb s most A h.R (Nat.le_trans h.l (by omega)) hm).mono ?_;rintro x A' ⟨rfl,R,k⟩;exact⟨k.mono fun q _ e=>by rw[e];exact hW,hK A' (h.next (gK most s) R k trivial fun _ _ _ _=>trivial)⟩
def aaF (C:Nat) (y:Value) (p:Nat->Bool) (A:Hp):Prop:=aQ A y p/\∀q,jc y q->C<=q
theorem iv.set {j:FuncId} (hj:fU P j) (h:iv rb b cs F (fun _=>True) A0 s A) (hW:W rb) {most:Nat} (hm:most<=1000000000) (he:look e a=.pointer (some ⟨rb,0,none⟩))
  (hK:∀y A',iv rb b cs F (aaF A0.size (.agg #[y]) (bH (cO most s).1)) A0 (cO most s).2 A'->dg P W t ((d,.agg #[y])::e) f A' Q) (wR:dg P W m e f A Q):dg P W (.wcons (.t d) none (.call j [.t a,.c (.int .i64 (most:Int))]) t m) e f A Q:=by
 rw[dK];refine⟨?_,wR⟩;simp only[EX.wp,List.map_cons,List.map_nil,il,rd_c,he];refine(hj F rb s most A h.R (Nat.le_trans h.l (by omega)) hm).mono ?_;rintro x A' ⟨S,o,R,k⟩;have hS:=S;obtain⟨y,_,rfl,_⟩:=hS;have:=h.k.size;exact⟨k.mono fun q _ e=>by rw[e];exact hW,hK y A' (h.next (tG most s) R k ⟨S,fun q hq=>by have:=o q hq;omega⟩ fun _ _ K h=>⟨h.1.aj K,h.2⟩)⟩
theorem Rn {z:Array Value} {te a1 a2:Nat} {x y cx cy:Value} (h1:look e a1=x) (h2:look e a2=y) (hx:x.cells=#[cx]) (hy:y.cells=#[cy]) (hz:z.size=2) (hK:dg P W t ((te,.agg #[cx,cy])::e) f A Q):dg P W (.px (.t te) none (.m (.bld z [(0,(1,.t a1)),(1,(1,.t a2))])) t) e f A Q:=by
 obtain⟨l⟩:=z
 match l,hz with
 |[u,w],_=>
  rw[cB];simp only[dJ,PX.free,PM.free,if_true,PX.pre,PM.pre,dV,il,h1,h2,hx,hy,PX.val,PM.val,nu,cD,fZ,mN];exact⟨⟨rfl,by simp,rfl,by simp,trivial⟩,hK⟩
theorem iv.aV (h:iv rb b cs F Y A0 s A) {T:TypeId} {cx cy:Value} (he:look e a=.agg #[cx,cy]) (hK:∀A' bn,iv rb b cs F Y A0 s A'->Bl A' bn [cx,cy]->dg P W t ((d,.slice (some ⟨bn,0,none⟩) 1 1)::e) f A' Q) (wR:dg P W m e f A Q):dg P W (.wcons (.t d) none (.aV T 2 1 [.t a]) t m) e f A Q:=by
 rw[dK];refine⟨?_,wR⟩;simp only[EX.wp,List.forall_mem_cons,List.not_mem_nil,false_imp_iff,implies_true,and_true,il,he,Value.cells,List.flatMap_cons,List.flatMap_nil,List.append_nil];have K1:af (fun _=>False) A (A.push (.cells #[cx,cy] T)):=(af.refl _ _).push _;refine⟨rfl,K1.any,hK _ _ ⟨h.k.trans K1.any,K1.bl h.B (by simp),h.R.ai K1 (by simp),h.l,h.n,h.st _ _ K1 h.y,h.st⟩ (Bl.cS _ _ _)⟩
end
theorem Ro {α:Type} {enc:α->List Value} {k:Nat} {P:Program} {T:TypeId} {bytes:Nat} {z:Array Value} {lv sv:Value} {H:Hp} {a c p off:Nat} {e:Env} {f:Fr} {Q:Fr->Hp->Prop} {b C:Nat} {cs:List Value} {L M:List α} {W:Nat->Prop} (hWb:W b) (hWo:∀q,ax lv q->W q)
  (hk:∀x,(enc x).length=k) (h1c:∀x,∀v∈enc x,v.oneCell'=true) (hs:bT enc k H lv L) (hn:∀q,ax lv q->C<=q) (hH:C<=H.size) (hx:bk enc k H sv M) (hz:z.size=k) (hb:bytes<=64) (h1:L.length+M.length<=1000000000)
  (hB:Bl H b cs) (WZ:b<C) (hoff:off<cs.length) (hf:look e c=.pointer (some ⟨b,off,none⟩)) (hap:(p==a||c==a)=false)
  (hK:∀v' H',bT enc k H' v' (L++M)->(∀q,ax v' q->ax lv q\/H.size<=q)->Bl H' b (cs.set off v')->af (fun q=>q=b\/ax lv q) H H'->Q f H'):
  iM false T k bytes z lv sv H (la P W H (.t a) (.px (.t p) none (.nil (.t c)) (.wcons .no none (.st (.t p) (.t a)) .done .wnil)) e f Q):=by
 refine IN hk h1c hs hx hz (by unfold maxLen;omega) (Nat.le_trans (Nat.mul_le_mul h1 hb) (by omega)) fun v' H' O' K' o'=>?_;simp only[Bool.or_eq_false_iff,beq_eq_false_iff_ne,ne_eq]at hap;have FG:¬a=p:=fun h=>hap.1 h.symm;have B':=K'.bl hB (fun h=>by have:=hn b h;omega);have hsl:aq v':=by obtain⟨_,_,_,rfl⟩:=O'.shape;trivial
 have ch:=K'.size;refine⟨K'.mono fun q _ h=>hWo q h,?_⟩;have K2:af (fun q=>q=b\/ax lv q) H (az H' ⟨b,off,none⟩ v'):=(K'.mono fun q _ h=>.inr h).az _ (.inl (.inl rfl));have K3:af W H' (az H' ⟨b,off,none⟩ v'):=(af.refl _ _).az _ (.inl hWb);simp only[cB,dK,uf,ue,dJ,PX.free,PX.pre,PX.val,qe,il,fZ,mN,mR,iO,bw,hf,if_true,FG,hap.2,if_false,EX.wp,bu,RN,aJ,and_true,true_and];exact⟨⟨B'.bu hoff,aI hsl⟩,K3,hK v' _ (O'.ai ((af.refl (fun q=>q=b) H').az v' (.inl rfl)) fun q hq e=>by
  rcases o' q hq with h|h
  ·have:=hn q h;omega
  ·omega) o' (B'.az off v') K2⟩
structure EF (rb b C:Nat) (cs:List Value) (F:Nat->Prop) (s:RS) (A:Hp):Prop where
 B:Bl A b cs
 R:iK F A rb s.1 s.2
 l:s.1.length<=1000000
 n:b≠rb
 bC:b<C
 rC:rb<C
 hC:C<=A.size
 nF:¬F b
 FC:∀q,F q->q<C
def qa (rb b C:Nat) (q:Nat):Prop:=q=b\/q=rb\/C<=q
theorem EF.s {rb b C:Nat} {cs:List Value} {F:Nat->Prop} {s:RS} {A:Hp} (h:EF rb b C cs F s A):iv rb b cs F (fun _=>True) A s A:=
 ⟨af.refl _ _,h.B,h.R,h.l,h.n,trivial,fun _ _ _ _=>trivial⟩
def RdK {α:Type} (enc:α->List Value) (rb b C off:Nat) (cs:List Value) (F:Nat->Prop) (s':RS) (x:α) (L:List α) (A:Hp) (N:Fr->Hp->Prop) (f:Fr):Prop:=∀A' tH,Bl A' b (cs.set off tH)->bT enc 2 A' tH (L++[x])->(∀q,ax tH q->C<=q)->iK F A' rb s'.1 s'.2->af (qa rb b C) A A'->N f A'
theorem V4 {P:Program} {ι:aG} {off:Nat} {f:Fr} {A A':Hp} {e:Env} {rb b C bn:Nat} {cs:List Value} {F:Nat->Prop} {s s':RS} {lv:Value} {L:List _} {x:_} {N:Fr->Hp->Prop} (h5:f 5=.pointer (some ⟨b,0,none⟩)) (hI:EF rb b C cs F s A) (O:bT cj 2 A lv L) (o:∀q,ax lv q->C<=q) (hL:L.length<=100) (hoff:0<cs.length)
  (hS:iv rb b cs F (fun _=>True) A s' A') (V5:Bl A' bn (cj x)) (e1:look e 15=lv) (e2:look e 21=.slice (some ⟨bn,0,none⟩) 1 1) (hK:RdK cj rb b C 0 cs F s' x L A N f):dg P (qa rb b C) (rG ι) e f A' N:=by
 unfold rG kW;rw[dK];refine⟨?_,trivial⟩;simp only[EX.wp,il,e1,e2];have hs:=hS.k.size;have n1:∀q,ax lv q->q≠rb:=fun q hq e=>by have:=o q hq;have:=hI.rC;omega
 have hC:=hI.hC;refine nB (C:=C) (.inl rfl) (fun q hq=>.inr (.inr (o q hq))) dD jh (O.ai hS.k n1) o (by omega) (bk.bl V5 (l:=[x]) rfl (by simp[dD]) (by simp)) rfl (by omega) (by simp;omega) hS.B hI.bC hoff h5 rfl fun v' A2 O' o' B' K'=>?_;refine hK A2 v' B' O' (fun q hq=>?_) (hS.R.ai K' fun q hq e=>?_) ((hS.k.mono fun q _ e=>.inr (.inl e)).trans (K'.mono fun q _ hq=>?_))
 ·rcases o' q hq with h|h
  ·exact o q h
  ·omega
 ·rcases e with e|e
  ·exact hI.nF (e▸hq)
  ·have:=o q e;have:=hI.FC q hq;omega
 ·rcases hq with h|h
  ·exact .inl h
  ·exact .inr (.inr (o q h))
theorem V6 {P:Program} {ι:aG} {off:Nat} {f:Fr} {A A':Hp} {e:Env} {rb b C bn:Nat} {cs:List Value} {F:Nat->Prop} {s s':RS} {lv:Value} {L:List _} {x:_} {N:Fr->Hp->Prop} (hI:EF rb b C cs F s A) (O:bT pE 2 A lv L) (o:∀q,ax lv q->C<=q) (hL:L.length<=100) (hoff:off<cs.length)
  (hS:iv rb b cs F (fun _=>True) A s' A') (V5:Bl A' bn (pE x)) (e1:look e 41=lv) (e2:look e 47=.slice (some ⟨bn,0,none⟩) 1 1) (e3:look e 38=.pointer (some ⟨b,off,none⟩)) (hK:RdK pE rb b C off cs F s' x L A N f):dg P (qa rb b C) (rH ι) e f A' N:=by
 unfold rH kW;rw[dK];refine⟨?_,trivial⟩;simp only[EX.wp,il,e1,e2];have hs:=hS.k.size;have n1:∀q,ax lv q->q≠rb:=fun q hq e=>by have:=o q hq;have:=hI.rC;omega
 have hC:=hI.hC;refine Ro (C:=C) (.inl rfl) (fun q hq=>.inr (.inr (o q hq))) eH fX (O.ai hS.k n1) o (by omega) (bk.bl V5 (l:=[x]) rfl (by simp[eH]) (by simp)) rfl (by omega) (by simp;omega) hS.B hI.bC hoff e3 rfl fun v' A2 O' o' B' K'=>?_;refine hK A2 v' B' O' (fun q hq=>?_) (hS.R.ai K' fun q hq e=>?_) ((hS.k.mono fun q _ e=>.inr (.inl e)).trans (K'.mono fun q _ hq=>?_))
 ·rcases o' q hq with h|h
  ·exact o q h
  ·omega
 ·rcases e with e|e
  ·exact hI.nF (e▸hq)
  ·have:=o q e;have:=hI.FC q hq;omega
 ·rcases hq with h|h
  ·exact .inl h
  ·exact .inr (.inr (o q h))
theorem V7 {P:Program} {ι:aG} (hs:pN P (ι.f 115)) (hn:dN P (ι.f 342)) {f:Fr} {A:Hp} {rb b C:Nat} {cs:List Value} {F:Nat->Prop} {s:RS} {lv:Value} {L:List wO} {Qb:Ex->Fr->Hp->Prop} (h4:f 4=.pointer (some ⟨rb,0,none⟩)) (h5:f 5=.pointer (some ⟨b,0,none⟩)) (hI:EF rb b C cs F s A) (hc:cs[0]?=some lv) (O:bT cj 2 A lv L) (o:∀q,ax lv q->C<=q) (hL:L.length<=100)
  (hK:RdK cj rb b C 0 cs F (nj s).2 (nj s).1 L A (Qb .n) f):vc P (Ig ι) Qb f A:=by
 unfold Ig kW;refine bo (qa rb b C) ?_;have hoff:0<cs.length:=(List.getElem?_eq_some_iff.1 hc).1;have S0:=hI.s;have hW:qa rb b C rb:=.inr (.inl rfl);simp only[cB,dJ,PX.free,if_true,PX.pre,PX.val,jG,h4,h5,Ix,et,fh,fZ,mN,true_and,and_true]
 repeat' (first|exact trivial|exact V4 (off:=0) h5 hI O o hL hoff (by assumption) (by assumption) rfl rfl hK|refine iv.rd (by assumption) hc rfl ?_ ?_|refine iv.str hs (most:=12) (by assumption) hW (by omega) rfl (fun _ _=>?_) ?_|refine iv.num hn (most:=63) (by assumption) hW (by omega) rfl (fun _ _=>?_) ?_|refine Rn rfl rfl rfl rfl rfl ?_|refine iv.aV (by assumption) rfl (fun _ _ _ _=>?_) ?_)
theorem V8 {P:Program} {ι:aG} (hn:dN P (ι.f 342)) {f:Fr} {A:Hp} {rb b C off:Nat} {cs:List Value} {F:Nat->Prop} {s:RS} {lv:Value} {L:List fV} {Qb:Ex->Fr->Hp->Prop} (h4:f 4=.pointer (some ⟨rb,0,none⟩)) (h7:f 7=.pointer (some ⟨b,off,none⟩)) (hI:EF rb b C cs F s A) (hc:cs[off]?=some lv) (O:bT pE 2 A lv L) (o:∀q,ax lv q->C<=q) (hL:L.length<=100)
  (hK:RdK pE rb b C off cs F (eX s).2 (eX s).1 L A (Qb .n) f):vc P (Ih ι) Qb f A:=by
 unfold Ih kW;refine bo (qa rb b C) ?_;have hoff:off<cs.length:=(List.getElem?_eq_some_iff.1 hc).1;have S0:=hI.s;have hW:qa rb b C rb:=.inr (.inl rfl);simp only[cB,dJ,PX.free,if_true,PX.pre,PX.val,jG,il,bw,qe,h4,h7,Ix,et,fh,fZ,mN,true_and,and_true]
 repeat' (first|exact trivial|exact V6 hI O o hL hoff (by assumption) (by assumption) rfl rfl rfl hK|refine iv.rd (by assumption) hc rfl ?_ ?_|refine iv.num hn (most:=10) (by assumption) hW (by omega) rfl (fun _ _=>?_) ?_|refine Rn rfl rfl rfl rfl rfl ?_|refine iv.aV (by assumption) rfl (fun _ _ _ _=>?_) ?_)
def acE (rb b C:Nat) (cs:List Value) (F:Nat->Prop) (s':RS) (k:Int) (p:Nat->Bool) (lv:Value) (L:List MV) (A:Hp) (N:Fr->Hp->Prop) (f:Fr):Prop:=∀A' tH (x:MV),Bl A' b (cs.set 4 tH)->bT cH 2 A' tH (L++[x])->(∀q,ax tH q->ax lv q\/A.size<=q)->iK F A' rb s'.1 s'.2->af (fun q=>q=b\/q=rb\/ax lv q) A A'->x.1=k->aQ A' (.agg #[hZ x]) p->(∀q,aT (hZ x) q->C<=q/\¬ax tH q)->N f A'
theorem V9 {P:Program} {ι:aG} {f:Fr} {A A':Hp} {e:Env} {rb b C bn:Nat} {cs:List Value} {F:Nat->Prop} {s s':RS} {lv:Value} {L:List MV} {k:Int} {y:Value} {p:Nat->Bool} {N:Fr->Hp->Prop} (h5:f 5=.pointer (some ⟨b,0,none⟩)) (hI:EF rb b C cs F s A) (O:bT cH 2 A lv L) (o:∀q,ax lv q->C<=q) (hL:L.length<=100) (hoff:4<cs.length)
  (hS:iv rb b cs F (aaF A.size (.agg #[y]) p) A s' A') (V5:Bl A' bn [.int .i64 k,y]) (e1:look e 57=lv) (e2:look e 63=.slice (some ⟨bn,0,none⟩) 1 1) (hK:acE rb b C cs F s' k p lv L A N f):dg P (qa rb b C) (rI ι) e f A' N:=by
 unfold rI kW kZ;rw[dK];refine⟨?_,trivial⟩;simp only[EX.wp,il,e1,e2];have hs:=hS.k.size;have n1:∀q,ax lv q->q≠rb:=fun q hq e=>by have:=o q hq;have:=hI.rC;omega
 have hC:=hI.hC;obtain⟨hSM,hfr⟩:=hS.y;obtain⟨x,rfl,hx⟩:∃x:MV,y=hZ x/\x.1=k:=by
  have h0:=hSM;obtain⟨v,W,ev,hv⟩:=h0;simp only[Value.agg.injEq,Array.mk.injEq,List.cons.injEq,and_true]at ev;subst ev;obtain⟨a,c,e,_⟩:=hv.sl.mk;exact⟨(k,a,_,c),e,rfl⟩
 have hB0:Bl A' bn (cH x):=by unfold cH;rw[hx];exact V5
 refine nB (C:=C) (.inl rfl) (fun q hq=>.inr (.inr (o q hq))) eP ji (O.ai hS.k n1) o (by omega) (bk.bl hB0 (l:=[x]) rfl (by simp[eP]) (by simp)) rfl (by omega) (by simp;omega) hS.B hI.bC hoff h5 rfl fun v' A2 O' o' B' K'=>?_;have nl:∀q,aT (hZ x) q->¬ax lv q:=fun q hq h=>by have:=hfr q hq;have:=O.bj h;omega
 refine hK A2 v' x B' O' (fun q hq=>?_) (hS.R.ai K' fun q hq e=>?_) ((hS.k.mono fun q _ e=>.inr (.inl e)).trans (K'.mono fun q _ hq=>?_)) hx (hSM.ai K' fun q hq e=>?_) fun q hq=>⟨by have:=hfr q hq;omega,fun h=>?_⟩
 ·rcases o' q hq with h|h
  ·exact .inl h
  ·exact .inr (by omega)
 ·rcases e with e|e
  ·exact hI.nF (e▸hq)
  ·have:=o q e;have:=hI.FC q hq;omega
 ·rcases hq with h|h
  ·exact .inl h
  ·exact .inr (.inr h)
 ·rcases e with e|e
  ·have:=hfr q hq;have:=hI.bC;omega
  ·exact nl q hq e
 ·rcases o' q h with h|h
  ·exact nl q hq h
  ·have:=hSM.bj (k:=q) hq;omega
theorem Wa {P:Program} {ι:aG} (hn:dN P (ι.f 342)) (hs:fU P (ι.f 343)) {f:Fr} {A:Hp} {rb b C:Nat} {cs:List Value} {F:Nat->Prop} {s:RS} {lv:Value} {L:List MV} {Qb:Ex->Fr->Hp->Prop} (h4:f 4=.pointer (some ⟨rb,0,none⟩)) (h5:f 5=.pointer (some ⟨b,0,none⟩)) (hI:EF rb b C cs F s A) (hc:cs[4]?=some lv) (O:bT cH 2 A lv L) (o:∀q,ax lv q->C<=q) (hL:L.length<=100)
  (hK:acE rb b C cs F (mQ s).2 (mQ s).1.1 (bH (cO 10 (rdNum 10 s).2).1) lv L A (Qb .n) f):vc P (Ii ι) Qb f A:=by
 unfold Ii kW kZ;refine bo (qa rb b C) ?_;have hoff:4<cs.length:=(List.getElem?_eq_some_iff.1 hc).1;have S0:=hI.s;have hW:qa rb b C rb:=.inr (.inl rfl);simp only[cB,dJ,PX.free,if_true,PX.pre,PX.val,jG,h4,h5,Ix,et,fh,fZ,mN,true_and,and_true]
 repeat' (first|exact trivial|exact V9 h5 hI O o hL hoff (by assumption) (by assumption) rfl rfl hK|refine iv.rd (by assumption) hc rfl ?_ ?_|refine iv.num hn (most:=10) (by assumption) hW (by omega) rfl (fun _ _=>?_) ?_|refine iv.set hs (most:=10) (by assumption) hW (by omega) rfl (fun _ _ _=>?_) ?_|refine Rn rfl rfl rfl rfl rfl ?_|refine iv.aV (by assumption) rfl (fun _ _ _ _=>?_) ?_)
end Go.Mg
namespace Go.Mg
open Go Go.RowKit
theorem ig {α:Type} {f:RS->α×RS} (hf:∀s,(f s).2.1.length<=s.1.length):∀(n:Nat) (s:RS),(bh f n s).2.1.length<=s.1.length
 |0,_=>Nat.le_refl _
 |n+1,s=>Nat.le_trans (hf _) (ig hf n s)
theorem Et (s:RS):(nj s).2.1.length<=s.1.length:=Nat.le_trans (gK _ _) (pP _ _)
theorem BR (s:RS):(eX s).2.1.length<=s.1.length:=Nat.le_trans (gK _ _) (gK _ _)
theorem Wc (s:RS):(mQ s).2.1.length<=s.1.length:=Nat.le_trans (tG _ _) (gK _ _)
variable {α:Type} {rb b off:Nat} {cs:List Value} {F:Nat->Prop} {s0:RS} {A0 A:Hp}
theorem wE {f:RS->α×RS} (hf:∀s,(f s).2.1.length<=s.1.length) (most:Nat) (s:RS):(bR most f s).2.1.length<=s.1.length:=Nat.le_trans (ig hf _ _) (jz _ _).1
def Ph {α:Type} (enc:α->List Value) (fr:RS->α×RS) (rb b off:Nat) (cs:List Value) (F:Nat->Prop) (s0:RS) (A0:Hp) (k:Nat) (A:Hp):Prop:=∃lv,Bl A b (cs.set off lv)/\bT enc 2 A lv (bh fr k s0).1/\(∀q,ax lv q->A0.size<=q)/\iK F A rb (bh fr k s0).2.1 (bh fr k s0).2.2/\af (qa rb b A0.size) A0 A
structure PhC (rb b:Nat) (F:Nat->Prop) (s0:RS) (A0:Hp):Prop where
 l:s0.1.length<=1000000
 n:b≠rb
 bC:b<A0.size
 rC:rb<A0.size
 nF:¬F b
 FC:∀q,F q->q<A0.size
theorem Ph.zero {enc:α->List Value} {fr:RS->α×RS} (B:Bl A0 b cs) (hc:cs[off]?=some (.slice none 0 0)) (R:iK F A0 rb s0.1 s0.2):Ph enc fr rb b off cs F s0 A0 0 A0:=
 ⟨.slice none 0 0,by
  obtain⟨h,e⟩:=List.getElem?_eq_some_iff.1 hc;rw[<-e,List.set_getElem_self h];exact B,bT.nil _,fun q h=>h.elim,R,af.refl _ _⟩
theorem Ph.step {enc:α->List Value} {fr:RS->α×RS} (hf:∀s,(fr s).2.1.length<=s.1.length) {k:Nat} (c:PhC rb b F s0 A0) (h:Ph enc fr rb b off cs F s0 A0 k A) (hoff:off<cs.length) (hk:k<=100):
  ∃lv,EF rb b A0.size (cs.set off lv) F (bh fr k s0).2 A/\(cs.set off lv)[off]?=some lv/\bT enc 2 A lv (bh fr k s0).1/\(∀q,ax lv q->A0.size<=q)/\(bh fr k s0).1.length<=100∧
   ∀{N:Fr->Hp->Prop} {f:Fr},(∀A',Ph enc fr rb b off cs F s0 A0 (k+1) A'->N f A')->RdK enc rb b A0.size off (cs.set off lv) F (fr (bh fr k s0).2).2 (fr (bh fr k s0).2).1 (bh fr k s0).1 A N f:=by
 obtain⟨lv,B,O,o,R,K⟩:=h;have hs:=K.size;refine⟨lv,⟨B,R,Nat.le_trans (ig hf k s0) c.l,c.n,c.bC,c.rC,hs,c.nF,c.FC⟩,by simp[hoff],O,o,by rw[ek];exact hk,?_⟩;intro N f hN A' tH B' O' o' R' K';refine hN A' ⟨tH,?_,O',o',R',K.trans K'⟩
 rwa [List.set_set]at B'
theorem Rp {most:Nat} {s:RS} {n:Nat} (h:bH (cO most s).1 n=true):n<=most:=by
 unfold cO at h
 split at h
 ·rw[fT]at h;cases h
 ·split at h
  ·rw[fT]at h;cases h
  ·split at h
   ·rw[fT]at h;cases h
   ·split at h
    ·rw[fT]at h;cases h
    ·next hn=>
     apply Classical.byContradiction;intro hc;exact hn ⟨n,h,by omega⟩
theorem bT.phase {enc:α->List Value} {C:Nat} {A':Hp} {v:Value} {l:List α} (h:bT enc 2 A v l) {C0:Nat} (o:∀q,ax v q->C0<=q) (hb:b<C0) (hr:rb<C0) (hC:A.size<=C) (K:af (qa rb b C) A A'):bT enc 2 A' v l:=
 h.ai K fun q hq e=>by
  have:=o q hq;have:=h.bj hq;rcases e with e|e|e<;>omega
def rJ (P:Program) (ι:aG) (k:FuncId):Prop:=∀(l:List UInt8) (v:Value) (H:Hp),bg ι H->aO H v (w8 l)->l.length<=1000000->an P k #[v] H fun r H'=>
 ((∃F fv,nD F=true/\df F=l/\r=.tuple #[fv,.int .i64 0]/\∀X W,af W H' X->(∀q,W q->q<H.size)->bU X fv F)\/((∀F,nD F=true->df F≠l)/\r=.tuple #[.agg #[.slice none 0 0,.slice none 0 0,.slice none 0 0,.slice none 0 0,.slice none 0 0],.int .i64 6]))/\af (fun _=>False) H H'
structure afp (P:Program) (ι:aG):Prop where
 newr:rq P (ι.f 108)
 cnt:nM P (ι.f 113)
 str:pN P (ι.f 115)
 num:dN P (ι.f 342)
 set:fU P (ι.f 343)
 fin:wy P (ι.f 117)
 uP:fp P ι (ι.f 312)
 byt:pO P ι (ι.f 348)
 beq:BG P (ι.f 344)
theorem Rq {P:Program} {ι:aG} {k:FuncId} (hk:al P k (BO ι) BQ 1) (c:afp P ι):rJ P ι k:=by
 intro l v H hT hv hl;refine qI fun Q hQ=>?_;refine ah hk (args:=[_]) (by simp) ?_;unfold BO BQ kA kB kF kC kD ke kG kH kK kM kO kS kT kU kV kY kZ;simp-implicitDefEqProofs only[go_sem,↓reduceIte,Za,Zb,Zc,reduceCtorEq];refine ay fun H1 b2 e1 z1 B1 K1=>?_;have bQ:Bl H1 b2 [.slice none 0 0,.slice none 0 0,.slice none 0 0,.slice none 0 0,.slice none 0 0]:=B1;have s1:=K1.size;simp-implicitDefEqProofs only[go_sem,↓reduceIte,Za,Zb,Zc,reduceCtorEq];refine(c.newr l v H1 (hv.ai K1 (by simp)) (by omega)).mono ?_;rintro r H2 ⟨rb,FF,rfl,R2,o2,K2⟩;have B2:=K2.bl bQ (by simp);have fk:=K1.trans K2;have s2:=K2.size;have hrb:=o2 rb R2.at;have Z0:=R2.bound;have hrl:=Z0 rb R2.at;rw[ae];simp-implicitDefEqProofs only[go_sem,↓reduceIte,Za,Zb,Zc,reduceCtorEq];refine ay fun H3 b5 e5 z5 B5 K5=>?_;have yU:Bl H3 b5 [.slice none 0 0,.slice none 0 0,.slice none 0 0,.slice none 0 0,.slice none 0 0]:=B5;have B3:=K5.bl B2 (by simp);have lF:=fk.trans K5;have s5:=K5.size;have R3:iK FF H3 rb (l,(0:Int)).1 (l,(0:Int)).2:=R2.ai K5 (by simp);have nFb:¬FF b5:=fun h=>by have:=Z0 b5 h;omega
 have hl0:((l,(0:Int)):RS).1.length<=1000000:=hl;obtain⟨s0,pW⟩:∃s0:RS,s0=(l,0):=⟨_,rfl⟩
 rw[<-pW]at R3 hl0;simp-implicitDefEqProofs only[go_sem,↓reduceIte,Za,Zb,Zc,reduceCtorEq];refine(c.cnt FF rb s0 10 H3 R3 (by omega) (by omega)).mono ?_;rintro r A0 ⟨rfl,R4,K4⟩;obtain⟨hc1,hc2⟩:=jz 10 s0;have B54:=K4.bl yU (by omega);have s4:=K4.size;have P1:PhC rb b5 FF (bF 10 s0).2 A0:=⟨by omega,by omega,by omega,by omega,nFb,fun q hq=>by have:=Z0 q hq;omega⟩
 rw[ae];simp-implicitDefEqProofs only[go_sem,↓reduceIte,Za,Zb,Zc,reduceCtorEq];refine aD (bF 10 s0).1 [13,12] rfl rfl (by omega) (by rfl) (by rfl) (fun k g A=>Ph cj nj rb b5 0 [.slice none 0 0,.slice none 0 0,.slice none 0 0,.slice none 0 0,.slice none 0 0] FF (bF 10 s0).2 A0 k A) (Ph.zero B54 rfl R4) ?_ ?_
 ·intro k g A Kb gi gn hP;obtain⟨lv,hI,hc,O,o,hL,hN⟩:=hP.step Et P1 (by simp) (by omega);refine V7 c.str c.num (by rfl) (by rfl) hI hc O o hL (hN fun A' h=>?_);simp-implicitDefEqProofs only[go_sem,↓reduceIte,Za,Zb,Zc,reduceCtorEq,ae];exact h
 rintro g A1 -⟨sv,BS,OS,oS,RS1,KS⟩;have e1':(bh nj (bF 10 s0).1 (bF 10 s0).2)=bR 10 nj s0:=rfl;rw[e1']at OS RS1;have hs1:=wE Et 10 s0;generalize hst:bR 10 nj s0=p1 at*;have sS:=KS.size;simp-implicitDefEqProofs only[go_sem,↓reduceIte,Za,Zb,Zc,reduceCtorEq];refine aF fun A2 b28 e28 z28 B28 K28=>?_;have afq:Bl A2 b28 [.pointer (some ⟨b5,1,none⟩),.pointer (some ⟨b5,2,none⟩),.pointer (some ⟨b5,3,none⟩)]:=B28;have s28:=K28.size;have BS2:Bl A2 b5 (sv::([.slice none 0 0,.slice none 0 0,.slice none 0 0]++[.slice none 0 0])):=K28.bl BS (by simp);have OS2:=OS.ai K28 (by simp);have RS2:=RS1.ai K28 (by simp);clear B28;simp-implicitDefEqProofs only[go_sem,↓reduceIte,Za,Zb,Zc,reduceCtorEq];refine aD 3 [31,7,35,36,37,30] rfl rfl (by omega) (by rfl) (by rfl) (fun j g A=>∃u:List Value,u.length=3/\Bl A b5 (sv::(u++[.slice none 0 0]))/\(∀i<j,bT pE 2 A (u.getD i undef) ((bh (bR 20 eX) j p1.2).1.getD i [])/\∀q,ax (u.getD i undef) q->A0.size<=q)∧
   (∀i,j<=i->i<3->u.getD i undef=.slice none 0 0)/\bT cj 2 A sv p1.1/\iK FF A rb (bh (bR 20 eX) j p1.2).2.1 (bh (bR 20 eX) j p1.2).2.2/\Bl A b28 [.pointer (some ⟨b5,1,none⟩),.pointer (some ⟨b5,2,none⟩),.pointer (some ⟨b5,3,none⟩)]/\af (qa rb b5 A2.size) A2 A)
  ⟨[.slice none 0 0,.slice none 0 0,.slice none 0 0],rfl,BS2,fun i hi=>by omega,fun i h1 h2=>by
   have:i=0\/i=1\/i=2:=by omega
   rcases this with rfl|rfl|rfl<;>rfl,OS2,RS2,afq,af.refl _ _⟩ ?_ ?_
 ·rintro j g1 A hj gi gn ⟨u,ul,B,hdone,hrest,OSA,RA,aaG,KA⟩;simp-implicitDefEqProofs only[go_sem,↓reduceIte,Za,Zb,Zc,reduceCtorEq,ae]at gi gn;have sA:=KA.size;have hp:cell A ⟨b28,j,none⟩=some (.pointer (some ⟨b5,1+j,none⟩)):=by
   rw[aaG.cell];have:j=0\/j=1\/j=2:=by omega
   rcases this with rfl|rfl|rfl<;>rfl
  have hlj:=ig (wE BR 20) j p1.2;generalize hS:(bh (bR 20 eX) j p1.2).2=sj at*;simp-implicitDefEqProofs only[go_sem,↓reduceIte,Za,Zb,Zc,reduceCtorEq,gi,ak,hp];refine⟨by omega,(c.cnt FF rb sj 20 A RA (by omega) (by omega)).mono ?_⟩;rintro r A' ⟨rfl,RA',wP⟩;obtain⟨hd1,hd2⟩:=jz 20 sj;have sA':=wP.size;have B':=wP.bl B (by omega);have nrb:∀{q:Nat},A0.size<=q->q≠rb:=fun h e=>by omega
  have P2:PhC rb b5 FF (bF 20 sj).2 A':=⟨by omega,by omega,by omega,by omega,nFb,fun q hq=>by have:=Z0 q hq;omega⟩
  have IP:(sv::(u++[.slice none 0 0]))[1+j]?=some (.slice none 0 0):=by
   rw[Nat.add_comm,List.getElem?_cons_succ,List.getElem?_append_left (by omega),List.getElem?_eq_getElem (by omega)];have:=hrest j (Nat.le_refl _) hj;rw[List.getD_eq_getElem?_getD,List.getElem?_eq_getElem (by omega)]at this;exact congrArg some this
  rw[ae];simp-implicitDefEqProofs only[go_sem,↓reduceIte,Za,Zb,Zc,reduceCtorEq];refine aD (bF 20 sj).1 [37,36] rfl rfl (by omega) (by rfl) (by rfl) (fun k g X=>Ph pE eX rb b5 (1+j) (sv::(u++[.slice none 0 0])) FF (bF 20 sj).2 A' k X) (Ph.zero B' IP RA') ?_ ?_
  ·intro k g X Kb gi gn hP;obtain⟨lv,hI,hc,O,o,hL,hN⟩:=hP.step BR P2 (by simp[ul];omega) (by omega);refine V8 c.num (by rfl) (by rfl) hI hc O o hL (hN fun A' h=>?_);simp-implicitDefEqProofs only[go_sem,↓reduceIte,Za,Zb,Zc,reduceCtorEq,ae];exact h
  ·rintro g X -⟨lv,BX,OX,oX,RX,KX⟩;have e2:(bh eX (bF 20 sj).1 (bF 20 sj).2)=bR 20 eX sj:=rfl;rw[e2]at OX RX;have wT:(sv::(u++[.slice none 0 0])).set (1+j) lv=sv::(u.set j lv++[.slice none 0 0]):=by
    rw[Nat.add_comm,List.set_cons_succ,List.set_append,if_pos (by omega)]
   rw[wT]at BX;have afr:¬(qa rb b5 A'.size b28):=fun h=>by
    have:=aaG.lt;rcases h with h|h|h<;>omega
   have KAX:af (qa rb b5 A2.size) A X:=(wP.mono fun q _ e=>.inr (.inl e)).trans (KX.mono fun q _ e=>by
    rcases e with e|e|e
    ·exact .inl e
    ·exact .inr (.inl e)
    ·exact .inr (.inr (by omega)))
   have mT:∀{α:Type} {enc:α->List Value} {v:Value} {l:List α},bT enc 2 A v l->(∀q,ax v q->A0.size<=q)->bT enc 2 X v l:=fun h o=>
    (h.ai wP fun q hq e=>nrb (o q hq) e).phase o (by omega) (by omega) (Nat.le_refl _) KX
   simp-implicitDefEqProofs only[go_sem,↓reduceIte,Za,Zb,Zc,reduceCtorEq,ae];refine⟨u.set j lv,by simp[ul],BX,fun i hi=>?_,fun i h1 h2=>?_,mT OSA oS,?_,(KX.bl (wP.bl aaG (by omega)) afr),KA.trans KAX⟩
   ·by_cases e:i=j
    ·subst e;have eg:(u.set i lv).getD i undef=lv:=by rw[List.getD_eq_getElem?_getD,List.getElem?_set_self (by omega)];rfl
     have er:(bh (bR 20 eX) (i+1) p1.2).1.getD i []=(bR 20 eX sj).1:=by
      rw[bh,hS];simp only;rw[List.getD_eq_getElem?_getD,List.getElem?_append_right (by rw[ek];omega),ek,Nat.sub_self];rfl
     rw[eg,er];exact⟨OX,fun q hq=>by have:=oX q hq;omega⟩
    ·have oh:i<j:=by omega
     have eg:(u.set j lv).getD i undef=u.getD i undef:=by rw[List.getD_eq_getElem?_getD,List.getElem?_set_ne (by omega),<-List.getD_eq_getElem?_getD]
     have er:(bh (bR 20 eX) (j+1) p1.2).1.getD i []=(bh (bR 20 eX) j p1.2).1.getD i []:=by
      rw[bh];simp only;rw[List.getD_eq_getElem?_getD,List.getElem?_append_left (by rw[ek];omega),<-List.getD_eq_getElem?_getD]
     rw[eg,er];exact⟨mT (hdone i oh).1 (hdone i oh).2,(hdone i oh).2⟩
   ·have eg:(u.set j lv).getD i undef=u.getD i undef:=by rw[List.getD_eq_getElem?_getD,List.getElem?_set_ne (by omega),<-List.getD_eq_getElem?_getD]
    rw[eg];exact hrest i (by omega) h2
   ·rw[bh,hS];exact RX
 ·rintro g1 A -⟨u,ul,B,hdone,-,OSA,RA,-,KA⟩;have sA:=KA.size;obtain⟨bv,dv,av,rfl⟩:∃bv dv av,u=[bv,dv,av]:=by
   match u,ul with
   |[x,y,z],_=>exact⟨x,y,z,rfl⟩
  have B:Bl A b5 [sv,bv,dv,av,.slice none 0 0]:=B;obtain⟨Ob,ob⟩:=hdone 0 (by omega);obtain⟨Od,od⟩:=hdone 1 (by omega);obtain⟨Oa,oa⟩:=hdone 2 (by omega);have hl3:=ig (wE BR 20) 3 p1.2;have hF0:nN s0=(⟨p1.1,(bh (bR 20 eX) 3 p1.2).1.getD 0 [],(bh (bR 20 eX) 3 p1.2).1.getD 1 [],(bh (bR 20 eX) 3 p1.2).1.getD 2 [],(bR 20 mQ (bh (bR 20 eX) 3 p1.2).2).1⟩,(bR 20 mQ (bh (bR 20 eX) 3 p1.2).2).2):=by
   rw[<-hst];rfl
  generalize hG0:(bh (bR 20 eX) 3 p1.2).1.getD 0 []=g0 at*;generalize hG1:(bh (bR 20 eX) 3 p1.2).1.getD 1 []=g1 at*;generalize hG2:(bh (bR 20 eX) 3 p1.2).1.getD 2 []=g2 at*;generalize hS3:(bh (bR 20 eX) 3 p1.2).2=s3 at*;have Ob:bT pE 2 A bv g0:=Ob;have Od:bT pE 2 A dv g1:=Od;have Oa:bT pE 2 A av g2:=Oa;simp-implicitDefEqProofs only[go_sem,↓reduceIte,Za,Zb,Zc,reduceCtorEq];refine(c.cnt FF rb s3 20 A RA (by omega) (by omega)).mono ?_;rintro r A' ⟨rfl,RA',wP⟩;obtain⟨hd1,hd2⟩:=jz 20 s3;have sA':=wP.size;have B':=wP.bl B (by omega);have hlc:((bF 20 s3).2).1.length<=1000000:=by omega
  rw[ae];simp-implicitDefEqProofs only[go_sem,↓reduceIte,Za,Zb,Zc,reduceCtorEq];refine aD (bF 20 s3).1 [55,54] rfl rfl (by omega) (by rfl) (by rfl) (fun k g X=>∃mv ms,Bl X b5 [sv,bv,dv,av,mv]/\bT cH 2 X mv ms/\(∀q,ax mv q->A'.size<=q)/\iq X ms (bh mQ k (bF 20 s3).2).1/\(∀x∈ms,∀q,aT (hZ x) q->A'.size<=q/\¬ax mv q)/\iK FF X rb (bh mQ k (bF 20 s3).2).2.1 (bh mQ k (bF 20 s3).2).2.2/\af (qa rb b5 A'.size) A' X)
   ⟨_,[],B',bT.nil _,fun q h=>h.elim,⟨rfl,fun i h=>by simp at h⟩,by simp,RA',af.refl _ _⟩ ?_ ?_
  ·rintro k g X Kb gi gn ⟨mv,ms,BX,OX,oX,MX,nX,RX,KX⟩;have sX:=KX.size;have hlk:=ig Wc k (bF 20 s3).2;have hI:EF rb b5 A'.size [sv,bv,dv,av,mv] FF (bh mQ k (bF 20 s3).2).2 X:=⟨BX,RX,by omega,by omega,by omega,by omega,sX,nFb,fun q hq=>by have:=Z0 q hq;omega⟩
   have nQ:ms.length<=100:=by rw[MX.len,ek];omega
   refine Wa c.num c.set (by rfl) (by rfl) hI rfl OX oX nQ ?_;intro Y mv' x BY OY oY RY KY hx1 hxS hxn;simp-implicitDefEqProofs only[go_sem,↓reduceIte,Za,Zb,Zc,reduceCtorEq,ae];have hle:∀n,bH (cO 10 (rdNum 10 (bh mQ k (bF 20 s3).2).2).2).1 n=true->n<64:=fun n hn=>by
    have:=Rp hn;omega
   refine⟨mv',ms++[x],BY,OY,fun q hq=>?_,?_,fun z hz q hq=>?_,RY,KX.trans (KY.mono fun q _ e=>?_)⟩
   ·rcases oY q hq with h|h
    ·exact oX q h
    ·omega
   ·refine iq.snoc (MX.ai KY fun z hz q hq e=>?_) hx1 (hxS.congr fun n=>(JT hle n).symm);obtain⟨n1,n2⟩:=nX z hz q hq;rcases e with e|e|e
    ·omega
    ·omega
    ·exact n2 e
   ·rcases List.mem_append.1 hz with h|h
    ·obtain⟨n1,n2⟩:=nX z h q hq;refine⟨n1,fun ho=>?_⟩;rcases oY q ho with h'|h'
     ·exact n2 h'
     ·obtain⟨i,hi,rfl⟩:=List.getElem_of_mem h;have:=(MX.at_ i hi (by rw[<-MX.len];exact hi)).2.bj (k:=q) hq;omega
    ·simp only[List.mem_singleton]at h;subst h;exact hxn q hq
   ·rcases e with e|e|e
    ·exact .inl e
    ·exact .inr (.inl e)
    ·exact .inr (.inr (oX q e))
  ·rintro g Z -⟨mv,ms,BZ,OZ,oZ,MZ,nZ,RZ,KZ⟩;have e3:(bh mQ (bF 20 s3).1 (bF 20 s3).2)=bR 20 mQ s3:=rfl;rw[e3]at MZ RZ;have nrb:∀{q:Nat},A0.size<=q->q≠rb:=fun h e=>by omega
   have mT:∀{α:Type} {enc:α->List Value} {v:Value} {l:List α} {Y:Hp},af (fun q=>q=b2\/q<H.size) Z Y->bT enc 2 A v l->(∀q,ax v q->A0.size<=q)->bk enc 2 Y v l:=fun K h o=>
    (((h.ai wP fun q hq e=>nrb (o q hq) e).phase o (by omega) (by omega) (Nat.le_refl _) KZ).ai K fun q hq e=>by have:=o q hq;omega).sl
   have acF:∀Y,af (fun q=>q=b2\/q<H.size) Z Y->bU Y (.agg #[sv,bv,dv,av,mv]) (nN s0).1:=fun Y K=>by
    rw[hF0];exact⟨sv,bv,dv,av,mv,ms,rfl,mT K OSA oS,mT K Ob ob,mT K Od od,mT K Oa oa,(OZ.ai K fun q hq e=>by have:=oZ q hq;omega).sl,MZ.ai K fun x hx q hq e=>by have:=(nZ x hx q hq).1;omega⟩
   have hPF:=acF Z (af.refl _ _);have sZ:=KZ.size;have af4:H.size<=rb:=by omega
   have w:∀(C q:Nat),H.size<=C->q<H.size->¬qa rb b5 C q:=fun C q h1 h2 e=>by
    rcases e with e|e|e<;>omega
   have KHZ:af (fun _=>False) H Z:=(((((lF.trans' K4 fun q hq e=>by omega).trans' KS fun q hq e=>w _ q (by omega) hq e).trans K28).trans' KA fun q hq e=>w _ q (by omega) hq e).trans' wP fun q hq e=>by omega).trans' KZ fun q hq e=>w _ q (by omega) hq e;have hTZ:=hT.ai KHZ;have hsn:(nN s0).2=(bR 20 mQ s3).2:=by rw[hF0]
   have hrt:∀G,nD G=true->df G=l->nN s0=(G,([],0)):=fun G hG he=>by
    rw[pW,<-he];have:=BK (gh hG) []
    rwa [List.append_nil]at this
   have w2:∀C,H1.size<=C->¬qa rb b5 C b2:=fun C h e=>by
    rcases e with e|e|e<;>omega
   have B2Z:=KZ.bl (wP.bl (KA.bl (K28.bl (KS.bl (K4.bl B3 (by omega)) (w2 _ (by omega))) (by simp)) (w2 _ (by omega))) (by omega)) (w2 _ (by omega));have t2:=B2Z.bM (o:=0) (n:=5) (by simp);have hFs:=RZ.bound;simp-implicitDefEqProofs only[go_sem,↓reduceIte,Za,Zb,Zc,reduceCtorEq];refine(c.fin FF rb _ _ Z RZ).mono ?_;rintro r Z1 ⟨rfl,rfl⟩;rw[<-hsn];have bad:∀A',af (fun _=>False) Z1 A'->(∀G,nD G=true->df G≠l)->(bM A' ⟨b2,0,none⟩ 5/\bO #[Value.slice none 0 0,.slice none 0 0,.slice none 0 0,.slice none 0 0,.slice none 0 0])/\(aM (aB A' ⟨b2,0,none⟩ [.slice none 0 0,.slice none 0 0,.slice none 0 0,.slice none 0 0,.slice none 0 0]) (.pointer (some ⟨b2,0,none⟩)) 5).isSome=true∧
     Q (.tuple #[.agg ((aM (aB A' ⟨b2,0,none⟩ [.slice none 0 0,.slice none 0 0,.slice none 0 0,.slice none 0 0,.slice none 0 0]) (.pointer (some ⟨b2,0,none⟩)) 5).getD #[]),.int .i64 6]) (aB A' ⟨b2,0,none⟩ [.slice none 0 0,.slice none 0 0,.slice none 0 0,.slice none 0 0,.slice none 0 0]):=fun A' wP h=>
    FE (R:=fun v H'=>Q (.tuple #[v,.int .i64 6]) H') (wP.bl B2Z (by simp)) rfl rfl rfl fun H' z' B' K'=>by
     rw[hQ];exact⟨.inr ⟨h,rfl⟩,(KHZ.trans wP).trans' K' fun q hq e=>by omega⟩
   have Ou:([sv,bv,dv,av,mv].all fun v=>v.oneCell')=true:=by
    simp only[List.all_cons,List.all_nil,Bool.and_true,Bool.and_eq_true];exact⟨aI OSA.sl.aq,aI Ob.sl.aq,aI Od.sl.aq,aI Oa.sl.aq,aI OZ.sl.aq⟩
   rw[ae]
   by_cases hE:pL (nN s0).2=0
   case neg=>
    have d1:((pL (nN s0).2)!=0)=true:=bne_iff_ne.2 hE;simp-implicitDefEqProofs only[go_sem,↓reduceIte,Za,Zb,Zc,reduceCtorEq,ae,d1,false_imp_iff,forall_const,cD];exact bad Z1 (af.refl _ _) fun G hG he=>by
     rw[hrt G hG he]at hE;exact hE rfl
   have d1:((pL (nN s0).2)!=0)=false:=by rw[hE];rfl
   simp-implicitDefEqProofs only[go_sem,↓reduceIte,Za,Zb,Zc,reduceCtorEq,d1,BZ.aM 5 rfl,forall_const];refine(c.uP (nN s0).1 _ Z1 hTZ hPF).mono ?_;rintro r Z2 ⟨rfl,tn⟩;rw[ae]
   cases hok:nD (nN s0).1 with
   |false=>
    simp-implicitDefEqProofs only[go_sem,↓reduceIte,Za,Zb,Zc,reduceCtorEq,ae,Bool.not_false,false_imp_iff,forall_const,cD];exact bad Z2 tn fun G hG he=>by
     rw[hrt G hG he]at hok;simp only at hok;rw[hG]at hok
     cases hok
   |true=>
    have BZ2:=tn.bl BZ (by simp);simp-implicitDefEqProofs only[go_sem,↓reduceIte,Za,Zb,Zc,reduceCtorEq,Bool.not_true,BZ2.aM 5 rfl,forall_const];refine(c.byt (nN s0).1 _ Z2 (hTZ.ai tn) (hPF.aj tn) hok).mono ?_;rintro r Z3 ⟨O3,o3,KZ3⟩;have EE:=(KHZ.trans tn).trans KZ3;rw[ae];simp-implicitDefEqProofs only[go_sem,↓reduceIte,Za,Zb,Zc,reduceCtorEq,forall_const];refine(c.beq _ l _ v Z3 O3.sl (hv.ai EE (by simp))).mono ?_;rintro r Z4 ⟨rfl,rfl⟩;rw[ae]
    by_cases heq:df (nN s0).1=l
    ·have BZ4:=(tn.trans KZ3).bl BZ (by simp);have Kq:=(tn.trans KZ3).bl B2Z (by simp);have t24:=Kq.bM (o:=0) (n:=5) (by simp);simp-implicitDefEqProofs only[go_sem,↓reduceIte,Za,Zb,Zc,reduceCtorEq,ae,heq,decide_true,Bool.not_true,BZ4.aM 5 rfl,forall_const];refine(fun h=>⟨⟨h.1.1,h.1.2⟩,h.2⟩) (FE (cs:=[sv,bv,dv,av,mv]) (R:=fun v H'=>Q (.tuple #[v,.int .i64 0]) H') Kq rfl rfl Ou fun H' z' B' K'=>?_);rw[hQ];exact⟨.inl ⟨(nN s0).1,_,hok,heq,rfl,fun X W KX hW=>acF _ (((tn.trans KZ3).any.trans (K'.mono fun q _ e=>.inl e)).trans (KX.mono fun q _ e=>.inr (hW q e)))⟩,EE.trans' K' fun q hq e=>by omega⟩
    ·have d4:decide (df (nN s0).1=l)=false:=decide_eq_false heq;simp-implicitDefEqProofs only[go_sem,↓reduceIte,Za,Zb,Zc,reduceCtorEq,ae,d4,Bool.not_false,false_imp_iff,forall_const,cD];exact bad Z4 (tn.trans KZ3) fun G hG he=>by
      rw[hrt G hG he]at heq;exact heq he
end Go.Mg
namespace Go.Mg
open Go Go.RowKit
theorem bU.cs {H:Hp} {v:Value} {F:cf} (h:bU H v F):∃cs:List Value,v=.agg cs.toArray/\cs.length=5/\(cs.all fun v=>v.oneCell')=true/\aq (cs.getD 0 undef)/\aU (cs.getD 0 undef)=F.st.length/\cs[0]?=some (cs.getD 0 undef):=by
 obtain⟨s,b,d,a,m,ms,rfl,h1,h2,h3,h4,h5,_⟩:=h;refine⟨[s,b,d,a,m],rfl,rfl,?_,h1.aq,h1.len,rfl⟩;simp only[List.all_cons,List.all_nil,Bool.and_true,Bool.and_eq_true];exact⟨aI h1.aq,aI h2.aq,aI h3.aq,aI h4.aq,aI h5.aq⟩
end Go.Mg
