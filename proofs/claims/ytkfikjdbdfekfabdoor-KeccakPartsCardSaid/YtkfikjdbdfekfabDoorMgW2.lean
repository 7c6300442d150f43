/- Lemmas of ours. No conditions. -/
import Derived.Test.YtkfikjdbdfekfabDoorMgW1
open Nat renaming reduceEqDiff→Za,reduceAdd→Zb,reduceMul→Zc
open Int renaming reduceBEq→Zf,reduceBNe→Zg
set_option linter.all false
set_option maxRecDepth 100000
namespace Go.Mg
open Go Go.RowKit
def gR (ι:bh):S:=
 kY [kC 2 (.pointer .none)] (kY [kA 3 0,kc 4 (kg (ι.f 51) [.t 3]),kU 5 (.m (.bld #[kZ,.int .i64 0] [(0,(1,.t 4))])),kc 6 (.box (ι.t 107) (.t 5)),kB 2 6] .ret)
def gS:List RV:=[.t 2]
def dF (ι:bh):S:=
 kY [kC 4 (.string ⟨#[]⟩)] (kY [kA 5 0,kA 6 1,kc 7 (kg (ι.f 114) [.t 5,.t 6]),kU 8 (.m (.b2s (.t 7))),kB 4 8] .ret)
def dG:List RV:=[.t 4]
def jz (ι:bh):S:=
 kY [kC 2 (.int .i64 0)] (.seq (kY [kA 3 0,kc 4 (kg (ι.f 109) [.t 3]),kF 5 4,kS 6 5 true 0,kT 7 5 true (.nil (.t 6)),kT 8 5 true (.fa 0 (.t 7)),kT 9 5 true (.ld (.t 8)),kT 10 5 true (.m (.lenl (.t 9))),kT 11 5 true (.cm .gtr .i64 (.t 10) (.c (.int .i64 0))),kV 12 (.pick (.t 5) (.t 11) (.c (.bool false)))] (.ite (.v 12) (kY [kC 2 (.int .i64 6)] .ret) .skip)) (kY [kA 13 0,kc 14 (kg (ι.f 116) [.t 13]),kB 2 14] .ret))
def jA:List RV:=[.t 2]
def mJ (ι:bh):S:=
 kY [kC 2 (.bool false)] (kY [kA 3 0,kU 4 (.m (.eqn .ptr true (.t 3))),kF 5 4,kS 6 5 true 0,kT 7 5 true (.nil (.t 6)),kT 8 5 true (.fa 1 (.t 7)),kT 9 5 true (.ld (.t 8)),kT 10 5 true (.cm .eql .i64 (.t 9) (.c (.int .i64 0))),kJ 11 5 10,kB 2 11] .ret)
def mK:List RV:=[.t 2]
def dH (ι:bh):S:=
 kY [kC 6 (.bool false)] (.seq (kY [kV 7 (.mv (.v 1))] (.ite (.v 7) (.reg [kA 8 0,kA 9 2,kc 10 (kg (ι.f 118) [.t 8,.t 9])]) .skip)) (kY [kA 11 1,kU 12 (.not (.t 11)),kB 6 12] .ret))
def dI:List RV:=[.t 6]
def gT (ι:bh):S:=
 kY [kC 2 (.int .u64 0),kC 3 (.int .i64 0)] (kY [kC 4 (.int .u64 0)] (.seq (kY [kA 7 0,kU 8 (.nil (.t 7)),kU 9 (.fa 0 (.t 8)),kV 10 (.ld (.t 9)),kO 11 10,kC 12 (.int .i64 0)] (.blk 0 (.loop (kY [kH 13 12 11] (.seq (.ite (.v 13) .skip (.exit 0)) (.seq (.blk 1 (kY [kA 14 12,kK 15 1 10 12,kD 16 15,kB 5 14,kB 6 16] (.seq (kY [kA 17 5,kU 18 (.cm .eql .i64 (.t 17) (.c (.int .i64 0))),kF 19 18,kS 20 19 true 6,kT 21 19 true (.cm .eql .u8 (.t 20) (.c (.int .u8 128))),kJ 22 19 21,kF 23 22,kS 24 23 false 4,kT 25 23 false (.cm .gtr .u64 (.t 24) (.c (.int .u64 144115188075855871))),kV 26 (.pick (.t 23) (.c (.bool true)) (.t 25))] (.ite (.v 26) (kY [kC 2 (.int .u64 0),kC 3 (.int .i64 0)] .ret) .skip)) (kY [kA 27 4,kU 28 (.sh .shl .u64 (.t 27) (.c (.int .u64 7))),kA 29 6,kU 30 (.bt .and .u8 (.t 29) (.c (.int .u8 127))),kU 31 (.ii .u64 (.t 30)),kU 32 (.bt .or .u64 (.t 28) (.t 31)),kB 4 32] (kY [kA 33 6,kV 34 (.cm .lss .u8 (.t 33) (.c (.int .u8 128)))] (.ite (.v 34) (kY [kA 35 4,kA 36 5,kU 37 (.ar .add .i64 (.t 36) (.c (.int .i64 1))),kB 2 35,kB 3 37] .ret) .skip)))))) (.reg [ke 38 12,kB 12 38]))))))) (kY [kC 2 (.int .u64 0),kC 3 (.int .i64 0)] .ret)))
def gU:List RV:=[.t 2,.t 3]
def gV (ι:bh):S:=
 kY [kC 4 (kZ)] (kY [kA 6 0,kU 7 (.nil (.t 6)),kU 8 (.fa 0 (.t 7)),kD 9 8,kA 10 1,kU 11 (.m (.sls 1 (.t 9) .none (.some (.t 10)))),kc 12 (kg (ι.f 51) [.t 11]),kB 5 12] (kY [kA 13 0,kA 14 0,kU 15 (.nil (.t 14)),kU 16 (.fa 0 (.t 15)),kD 17 16,kA 18 1,kU 19 (.m (.sls 1 (.t 17) (.some (.t 18)) .none)),kU 20 (.nil (.t 13)),kU 21 (.fa 0 (.t 20)),kf (.st (.t 21) (.t 19))] (kY [kA 22 5,kB 4 22] .ret)))
def gW:List RV:=[.t 4]
def fq (ι:bh):S:=
 kY [kC 4 (kZ)] (.seq (kY [kA 7 0,kc 8 (kg (ι.f 109) [.t 7]),kU 9 (.not (.t 8)),kF 10 9,kS 11 10 false 0,kS 12 10 false 1,kT 13 10 false (.cm .lss .i64 (.t 12) (.c (.int .i64 0))),.ge (.t 14) (.t 10) false (kg (ι.f 110) [.t 11,.t 13,.c (.int .i64 1)]),kT 15 10 false (.not (.t 14)),kV 16 (.pick (.t 10) (.c (.bool true)) (.t 15))] (.ite (.v 16) (kY [kC 4 (kZ)] .ret) .skip)) (kY [kA 18 0,kc 19 (kg (ι.f 111) [.t 18]),kF 17 19,kQ 20 17 0,kQ 21 17 1,kB 5 20,kB 6 21] (.seq (kY [kA 22 0,kA 23 6,kU 24 (.cm .eql .i64 (.t 23) (.c (.int .i64 0))),kc 25 (kg (ι.f 110) [.t 22,.t 24,.c (.int .i64 6)]),kU 26 (.not (.t 25)),kF 27 26,kS 28 27 false 0,kS 29 27 false 5,kS 30 27 false 1,kT 31 27 false (.ii .u64 (.t 30)),kT 32 27 false (.cm .gtr .u64 (.t 29) (.t 31)),.ge (.t 33) (.t 27) false (kg (ι.f 110) [.t 28,.t 32,.c (.int .i64 3)]),kT 34 27 false (.not (.t 33)),kU 35 (.pick (.t 27) (.c (.bool true)) (.t 34)),kF 36 35,kS 37 36 false 0,kS 38 36 false 5,kS 39 36 false 0,kT 40 36 false (.nil (.t 39)),kT 41 36 false (.fa 0 (.t 40)),kT 42 36 false (.ld (.t 41)),kT 43 36 false (.m (.lenl (.t 42))),kS 44 36 false 6,kT 45 36 false (.ar .sub .i64 (.t 43) (.t 44)),kT 46 36 false (.ii .u64 (.t 45)),kT 47 36 false (.cm .gtr .u64 (.t 38) (.t 46)),.ge (.t 48) (.t 36) false (kg (ι.f 110) [.t 37,.t 47,.c (.int .i64 6)]),kT 49 36 false (.not (.t 48)),kV 50 (.pick (.t 36) (.c (.bool true)) (.t 49))] (.ite (.v 50) (kY [kC 4 (kZ)] .ret) .skip)) (kY [kA 51 0,kA 52 6,kc 53 (kg (ι.f 112) [.t 51,.t 52])] (kY [kA 54 0,kA 55 5,kU 56 (.ii .i64 (.t 55)),kc 57 (kg (ι.f 112) [.t 54,.t 56]),kB 4 57] .ret)))))
def ft:List RV:=[.t 4]
def jB (ι:bh):S:=
 kY [kC 2 (.int .i64 0)] (.seq (kY [kA 3 0,kV 4 (.m (.eqn .ptr false (.t 3)))] (.ite (.v 4) (kY [kC 2 (.int .i64 1)] .ret) .skip)) (kY [kA 5 0,kU 6 (.nil (.t 5)),kU 7 (.fa 1 (.t 6)),kD 8 7,kB 2 8] .ret))
def jC:List RV:=[.t 2]
def gX (ι:bh):S:=
 kY [kA 4 0,kd 5 (kg (ι.f 109) [.t 4])] (.ite (.v 5) (.reg [kA 6 0,kA 7 1,kU 8 (.nil (.t 6)),kU 9 (.fa 1 (.t 8)),kf (.st (.t 9) (.t 7))]) .skip)
def gY:List RV:=[]
def bF:Bool->Nat->List UInt8->Option (Nat×List UInt8)
 |_,_,[]=>none
 |first,v,b::r=>if(first=true/\b.toNat=128)\/v>144115188075855871 then none else if b.toNat<128 then some (v*128+b.toNat % 128,r)else bF false (v*128+b.toNat % 128) r
theorem lr (first:Bool) (v:Nat) (b:UInt8) (r:List UInt8):bF first v (b::r)=if(first=true/\b.toNat=128)\/v>144115188075855871 then none else if b.toNat<128 then some (v*128+b.toNat % 128,r)else bF false (v*128+b.toNat % 128) r:=by rw[bF]
theorem fY:∀(l:List UInt8) (first:Bool) (u v:Nat) (r:List UInt8),bF first u l=some (v,r)->r.length<l.length/\r=l.drop (l.length -r.length)/\v<18446744073709551616
 |[],_,_,_,_,h=>by simp[bF]at h
 |b::l,first,u,v,r,h=>by
  unfold bF at h
  split at h
  ·cases h
  ·rename_i c1
   split at h
   ·cases h
    refine⟨by simp,?_,by omega⟩;simp
   ·obtain⟨h1,h2,h3⟩:=fY l false _ v r h;refine⟨by simp;omega,?_,h3⟩;have e:(b::l).length -r.length=(l.length -r.length)+1:=by simp;omega
    rw[e,List.drop_succ_cons];exact h2
def qc (u:Nat):List UInt8:=(nj u).reverse
theorem pe:qc 0=[]:=by rw[qc,j8];rfl
theorem ov {u:Nat} (h:u≠0):qc u=qc (u/128)++[UInt8.ofNat (u % 128+128)]:=by
 rw[qc,gP h,List.reverse_cons];rfl
theorem ow (v:Nat):gO v=qc (v/128)++[UInt8.ofNat (v % 128)]:=by
 rw[gO,sH,List.reverse_cons];rfl
theorem ofNat_lt (n:Nat) (h:n<256):(UInt8.ofNat n).toNat=n:=by rw[UInt8.toNat_ofNat'];omega
theorem ox (u:Nat) (h0:u≠0) (h:u<=144115188075855871) (r:List UInt8):bF true 0 (qc u++r)=bF false u r:=by
 induction u using Nat.strongRecOn generalizing r with
 |ind u ih=>
  rw[ov h0,List.append_assoc,List.singleton_append];have e:=ofNat_lt (u % 128+128) (by omega)
  by_cases c:u/128=0
  ·rw[c,pe,List.nil_append,bF,e,if_neg (by omega),if_neg (by omega)]
   congr 1;omega
  ·rw[ih (u/128) (by omega) c (by omega),bF,e,if_neg (by simp;omega),if_neg (by omega)]
   congr 1;omega
theorem mL (v:Nat) (h:v<18446744073709551616) (r:List UInt8):bF true 0 (gO v++r)=some (v,r):=by
 rw[ow,List.append_assoc,List.singleton_append];have e:=ofNat_lt (v % 128) (by omega)
 by_cases c:v/128=0
 ·rw[c,pe,List.nil_append,bF,e,if_neg (by omega),if_pos (by omega)]
  congr 2;omega
 ·rw[ox _ c (by omega),bF,e,if_neg (by simp;omega),if_pos (by omega)]
  congr 2;omega
def fA (F:Nat->Prop) (H:Hp) (r:Nat) (l:List UInt8) (e:Int):Prop:=∃v,Bl H r [v,.int .i64 e]/\aC H v (w8 l)/\F r/\(∀k,cQ v k->F k/\k≠r)/\∀k,F k->k<H.size
variable {F:Nat->Prop} {H:Hp} {r:Nat} {l:List UInt8} {e:Int} {P:Program} {ι:bh} {k:FuncId}
theorem fA.ax {W:Nat->Prop} {H':Hp} (h:fA F H r l e) (hk:ae W H H') (hw:∀k,F k->¬W k):fA F H' r l e:=by
 obtain⟨v,h1,h2,h3,h4,h5⟩:=h;exact⟨v,hk.bl h1 (hw _ h3),h2.ax hk (fun k hb=>hw k (h4 k hb).1),h3,h4,fun k hf=>Nat.lt_of_lt_of_le (h5 k hf) hk.size⟩
theorem fA.bound (h:fA F H r l e):∀k,F k->k<H.size:=let⟨_,_,_,_,_,h6⟩:=h;h6
theorem fA.at (h:fA F H r l e):F r:=let⟨_,_,_,h,_⟩:=h;h
def dJ (P:Program) (k:FuncId):Prop:=∀(l:List UInt8) (v:Value) (H:Hp),aC H v (w8 l)->l.length<=100000000->ai P k #[v] H fun x H'=>∃b F,x=.pointer (some ⟨b,0,none⟩)/\fA F H' b l 0/\(∀k,F k->H.size<=k)/\ae (fun _=>False) H H'
theorem mM (hk:ah P k (gR ι) gS 1) (hc:bL P (ι.f 51)):dJ P k:=by
 intro l v H hv hl;refine ag hk (args:=[_]) (by simp) ?_;unfold gR gS kA kB kC kU kc kg kY kZ;simp only[go_sem,zS,↓reduceIte,Za,Zb,Zc,reduceCtorEq,aa,zU,Zf,Zg];refine(hc _ _ _ hv hl).mono ?_;rintro x H1 ⟨O1,o1,K1⟩;obtain⟨a,n,c,rfl⟩:=O1.shape;simp only[go_sem,zS,↓reduceIte,Za,Zb,Zc,reduceCtorEq,aa,zU,Zf,Zg,bN,bW,Value.cells];generalize hA:Array.push H1 _=H2;have KA:ae (fun _=>False) H1 H2:=by rw[<-hA];exact(ae.refl _ _).push _
 have BA:Bl H2 H1.size [.slice a n c,.int .i64 0]:=by rw[<-hA];exact Bl.eL _ _ _
 have k1:=K1.size;refine⟨by simp,H1.size,fun k=>k=H1.size\/cQ (.slice a n c) k,rfl,⟨_,BA,(O1.sl).ax KA (by simp),.inl rfl,fun k hk=>⟨.inr hk,?_⟩,fun k hk=>?_⟩,fun k hk=>?_,K1.trans KA⟩
 ·have:=O1.nS (O1.cQ hk);omega
 ·have q:=BA.lt;rcases hk with rfl|hk
  ·exact q
  ·have:=O1.nS (O1.cQ hk);omega
 ·rcases hk with rfl|hk
  ·exact k1
  ·exact o1 _ (O1.cQ hk)
def dg (P:Program) (k:FuncId):Prop:=∀(F:Nat->Prop) (r:Nat) (l:List UInt8) (e:Int) (H:Hp),fA F H r l e->ai P k #[.pointer (some ⟨r,0,none⟩)] H fun x H'=>x=.bool (e==0)/\H'=H
theorem qd (hk:ah P k (mJ ι) mK 1):dg P k:=by
 intro F r l e H hr;refine ag hk (args:=[_]) (by simp) ?_;unfold mJ mK kA kB kF kC kJ kS kT kU kY;obtain⟨v,B,S,f1,f2,f3⟩:=hr;simp only[go_sem,zS,↓reduceIte,Za,Zb,Zc,reduceCtorEq,aa,zU,Zf,Zg,B.cell]
def fZ (P:Program) (k:FuncId):Prop:=∀(F:Nat->Prop) (r:Nat) (l:List UInt8) (e e2:Int) (H:Hp),fA F H r l e->ai P k #[.pointer (some ⟨r,0,none⟩),.int .i64 e2] H fun x H'=>x=.tuple #[]/\fA F H' r l (if e=0 then e2 else e)/\ae (fun k=>k=r) H H'
theorem mN (hk:ah P k (gX ι) gY 2) (ho:dg P (ι.f 109)):fZ P k:=by
 intro F r l e e2 H hr;refine ag hk (args:=[_,_]) (by simp) ?_;unfold gX gY kA kU kd kf kg kY;simp only[go_sem,zS,↓reduceIte,Za,Zb,Zc,reduceCtorEq,aa,zU,Zf,Zg];refine(ho _ _ _ _ _ hr).mono ?_;rintro x H1 ⟨rfl,rfl⟩
 by_cases c:e=0
 ·subst c;obtain⟨v,B,S,f1,f2,f3⟩:=hr;simp only[go_sem,zS,↓reduceIte,Za,Zb,Zc,reduceCtorEq,aa,zU,Zf,Zg,B.cell,B.cE];have K:=(ae.refl (fun k=>k=r) H1).al (p:=⟨r,0+1,none⟩) (.int .i64 e2) (.inl rfl);refine⟨⟨v,B.al 1 (.int .i64 e2),S.ax K (fun k hk=>(f2 k hk).2),f1,f2,fun k hk=>by rw[aX];exact f3 k hk⟩,K⟩
 ·have e1:(e==0)=false:=by simpa using c
  simp only[go_sem,zS,↓reduceIte,Za,Zb,Zc,reduceCtorEq,aa,zU,Zf,Zg,e1,c];exact⟨hr,ae.refl _ _⟩
def fu (P:Program) (k:FuncId):Prop:=∀(F:Nat->Prop) (r:Nat) (l:List UInt8) (e2:Int) (b:Bool) (H:Hp),fA F H r l 0->ai P k #[.pointer (some ⟨r,0,none⟩),.bool b,.int .i64 e2] H fun x H'=>x=.bool (!b)/\fA F H' r l (if b=true then e2 else 0)/\ae (fun k=>k=r) H H'
theorem jD (hk:ah P k (dH ι) dI 3) (hf:fZ P (ι.f 118)):fu P k:=by
 intro F r l e2 b H hr;refine ag hk (args:=[_,_,_]) (by simp) ?_;unfold dH dI kA kB kC kU kV kc kg kY
 cases b with
 |false=>
  simp only[go_sem,zS,↓reduceIte,Za,Zb,Zc,reduceCtorEq,aa,zU,Zf,Zg];exact⟨hr,ae.refl _ _⟩
 |true=>
  simp only[go_sem,zS,↓reduceIte,Za,Zb,Zc,reduceCtorEq,aa,zU,Zf,Zg];refine(hf _ _ _ _ _ _ hr).mono ?_;rintro x H1 ⟨rfl,R1,K1⟩;simp only[go_sem,zS,↓reduceIte,Za,Zb,Zc,reduceCtorEq,aa,zU,Zf,Zg]at R1⊢;exact⟨R1,K1⟩
def iN (P:Program) (k:FuncId):Prop:=∀(F:Nat->Prop) (r:Nat) (l:List UInt8) (e:Int) (H:Hp),fA F H r l e->ai P k #[.pointer (some ⟨r,0,none⟩)] H fun x H'=>x=.int .i64 e/\H'=H
theorem oy (hk:ah P k (jB ι) jC 1):iN P k:=by
 intro F r l e H hr;refine ag hk (args:=[_]) (by simp) ?_;unfold jB jC kA kB kC kD kU kV kY;obtain⟨v,B,S,f1,f2,f3⟩:=hr;simp only[go_sem,zS,↓reduceIte,Za,Zb,Zc,reduceCtorEq,aa,zU,Zf,Zg,B.cell]
def iO (s:List UInt8×Int):Int:=if s.2=0/\0<s.1.length then 6 else s.2
def fv (P:Program) (k:FuncId):Prop:=∀(F:Nat->Prop) (r:Nat) (l:List UInt8) (e:Int) (H:Hp),fA F H r l e->ai P k #[.pointer (some ⟨r,0,none⟩)] H fun x H'=>x=.int .i64 (iO (l,e))/\H'=H
theorem oz (hk:ah P k (jz ι) jA 1) (ho:dg P (ι.f 109)) (her:iN P (ι.f 116)):fv P k:=by
 intro F r l e H hr;refine ag hk (args:=[_]) (by simp) ?_;unfold jz jA kA kB kF kC kS kT kV kc kg kY;simp only[go_sem,zS,↓reduceIte,Za,Zb,Zc,reduceCtorEq,aa,zU,Zf,Zg];refine(ho _ _ _ _ _ hr).mono ?_;rintro x H1 ⟨rfl,rfl⟩;have dY:=hr;obtain⟨v,B,S,f1,f2,f3⟩:=dY
 by_cases c:e=0
 ·subst c
  by_cases c2:(l.length:Int)>0
  ·have:iO (l,0)=6:=by unfold iO;rw[if_pos ⟨rfl,by simpa using c2⟩]
   simp only[go_sem,zS,↓reduceIte,Za,Zb,Zc,reduceCtorEq,aa,zU,Zf,Zg,B.cell,S.aT,S.len,af,c2,this]
  ·have:iO (l,0)=0:=by unfold iO;rw[if_neg (fun h=>by have h2:0<l.length:=h.2;omega)]
   simp only[go_sem,zS,↓reduceIte,Za,Zb,Zc,reduceCtorEq,aa,zU,Zf,Zg,B.cell,S.aT,S.len,af,c2,this];refine(her _ _ _ _ _ hr).mono ?_;rintro x H1 ⟨rfl,rfl⟩;simp only[go_sem,zS,↓reduceIte,Za,Zb,Zc,reduceCtorEq,aa,zU,Zf,Zg]
 ·have e1:(e==0)=false:=by simpa using c
  have:iO (l,e)=e:=by unfold iO;rw[if_neg (by simp[c])]
  simp only[go_sem,zS,↓reduceIte,Za,Zb,Zc,reduceCtorEq,aa,zU,Zf,Zg,e1,this];refine(her _ _ _ _ _ hr).mono ?_;rintro x H1 ⟨rfl,rfl⟩;simp only[go_sem,zS,↓reduceIte,Za,Zb,Zc,reduceCtorEq,aa,zU,Zf,Zg]
def dh (l:List UInt8):Nat×Nat:=match bF true 0 l with|some (v,r)=>(v,l.length -r.length)|none=>(0,0)
theorem oC (b:UInt8):bits .and .u8 (b.toNat:Int) 127=((b.toNat % 128:Nat):Int):=by
 have:∀m:Fin 256,bits .and .u8 ((m.val:Nat):Int) 127=((m.val % 128:Nat):Int):=by decide+kernel
 exact this ⟨b.toNat,b.toNat_lt⟩
theorem xg (a b:Nat) (hb:b<128) (h:a*128+b<18446744073709551616):bits .or .u64 ((a*128:Nat):Int) (b:Int)=((a*128+b:Nat):Int):=by
 have e1:((a*128:Nat):Int)=((UInt64.ofNat (a*128)).toNat:Int):=by rw[UInt64.toNat_ofNat'];omega
 have e2:(b:Int)=((UInt64.ofNat b).toNat:Int):=by rw[UInt64.toNat_ofNat'];omega
 rw[e1,e2,gz,UInt64.toNat_or,UInt64.toNat_ofNat',UInt64.toNat_ofNat',Nat.mod_eq_of_lt (by omega),Nat.mod_eq_of_lt (by omega)];have e3:a*128=a<<<7:=by rw[Nat.shiftLeft_eq]
 rw[e3,<-Nat.shiftLeft_add_eq_or_of_lt (show b<2^7 from hb)]
def dK (P:Program) (k:FuncId):Prop:=∀(F:Nat->Prop) (r:Nat) (l:List UInt8) (e:Int) (H:Hp),fA F H r l e->l.length<=100000000->ai P k #[.pointer (some ⟨r,0,none⟩)] H fun x H'=>x=.tuple #[.int .u64 (dh l).1,.int .i64 (dh l).2]/\H'=H
theorem mP (hk:ah P k (gT ι) gU 1):dK P k:=by
 intro F r l e H hr hl;refine ag hk (args:=[_]) (by simp) ?_;unfold gT gU kA kB kF kC kD ke kH kK kJ kO kS kT kU kV kY;obtain⟨v,B,S,f1,f2,f3⟩:=hr;simp only[go_sem,zS,↓reduceIte,Za,Zb,Zc,reduceCtorEq,aa,zU,Zf,Zg,B.cell,S.aT,S.len,af];refine aD [13,5,6,26,2,3,4,34,12] rfl (fun n f H'=>∃i u:Nat,i<=l.length/\n=l.length -i/\f 12=.int .i64 i/\f 4=.int .u64 u/\u<18446744073709551616/\H'=H/\bF true 0 l=bF (i==0) u (l.drop i)) l.length
  ⟨0,0,by omega,by omega,rfl,rfl,by omega,rfl,rfl⟩ ?_
 rintro n g H' ⟨i,u,hi,rfl,gZ,oD,hu,rfl,hd⟩;simp only[go_sem,zS,↓reduceIte,Za,Zb,Zc,reduceCtorEq,aa,zU,Zf,Zg]at gZ oD;simp only[go_sem,zS,↓reduceIte,Za,Zb,Zc,reduceCtorEq,aa,zU,Zf,Zg,gZ,oD];refine au (fun hlt=>?_) (fun o8=>?_)
 ·have ki:i<l.length:=by omega
  obtain⟨bV,oV,cV,rfl,-,-⟩:=S.cells (by intro e;have h:=congrArg List.length e;rw[af,List.length_nil]at h;omega);have hcell:=S.j7 (i:=i) (by rw[af];omega);rw[bR _ _ ki]at hcell;have e1:l.drop i=l.getD i 0::l.drop (i+1):=by
   rw[List.drop_eq_getElem_cons ki];simp[ki]
  rw[e1]at hd;generalize l.getD i 0=b at*;have hb:=b.toNat_lt;have a1:=oC b;have w1:IntKind.u64.wrap ((b.toNat % 128:Nat):Int)=((b.toNat % 128:Nat):Int):=by rw[IntKind.wrap_u64];omega
  have i0:((i:Int)==0)=(i==0):=by
   by_cases h:i=0
   ·subst h;rfl
   ·rw[beq_eq_false_iff_ne.2 (by omega:(i:Int)≠0),beq_eq_false_iff_ne.2 h]
  have b0:((b.toNat:Int)==128)=(b.toNat==128):=by
   by_cases h:b.toNat=128
   ·rw[h];rfl
   ·rw[beq_eq_false_iff_ne.2 (by omega:(b.toNat:Int)≠128),beq_eq_false_iff_ne.2 h]
  rw[lr]at hd
  by_cases c1:((i==0)=true/\b.toNat=128)
  ·obtain⟨h1,h2⟩:=c1;rw[if_pos (.inl ⟨h1,h2⟩)]at hd;have:dh l=(0,0):=by unfold dh;rw[hd]
   have h3:(b.toNat==128)=true:=by simpa using h2
   simp only[go_sem,zS,↓reduceIte,Za,Zb,Zc,reduceCtorEq,aa,zU,Zf,Zg,gZ,oD,hcell,aq,af,i0,h1,b0,h3,this];exact⟨by omega,by omega⟩
  by_cases c2:u>144115188075855871
  ·rw[if_pos (.inr c2)]at hd;have:dh l=(0,0):=by unfold dh;rw[hd]
   have c3:(u:Int)>144115188075855871:=by omega
   by_cases h1:(i==0)=true
   ·have h3:(b.toNat==128)=false:=by simpa using fun e=>c1 ⟨h1,e⟩
    simp only[go_sem,zS,↓reduceIte,Za,Zb,Zc,reduceCtorEq,aa,zU,Zf,Zg,gZ,oD,hcell,aq,af,i0,h1,b0,h3,c3,this];exact⟨by omega,by omega⟩
   ·have h1:(i==0)=false:=by simpa using h1
    simp only[go_sem,zS,↓reduceIte,Za,Zb,Zc,reduceCtorEq,aa,zU,Zf,Zg,gZ,oD,hcell,aq,af,i0,h1,c3,this];exact⟨by omega,by omega⟩
  rw[if_neg (by rintro(h|h);exact c1 h;exact c2 h)]at hd;have c3:¬(u:Int)>144115188075855871:=by omega
  have sh:IntKind.u64.wrap ((u:Int)*2^7)=((u*128:Nat):Int):=by
   have:(2^7:Int)=128:=by decide
   rw[this,IntKind.wrap_u64];omega
  have o1:=xg u (b.toNat % 128) (by omega) (by omega);have wi:IntKind.i64.wrap ((i:Int)+1)=((i+1:Nat):Int):=IntWalk.i64_in _ ⟨by omega,by omega⟩;have hs:(i+1==0)=false:=rfl
  by_cases c4:b.toNat<128
  ·rw[if_pos c4]at hd;have:dh l=(u*128+b.toNat % 128,i+1):=by
    unfold dh;rw[hd];have:(l.drop (i+1)).length=l.length -(i+1):=List.length_drop;simp only[this]
    congr 1;omega
   have c5:(b.toNat:Int)<128:=by omega
   by_cases h1:(i==0)=true
   ·have h3:(b.toNat==128)=false:=by simpa using fun e=>c1 ⟨h1,e⟩
    simp only[go_sem,zS,↓reduceIte,Za,Zb,Zc,reduceCtorEq,aa,zU,Zf,Zg,gZ,oD,hcell,aq,af,i0,h1,b0,h3,c3,this,a1,w1,sh,o1,c5,wi];exact⟨⟨by omega,by omega⟩,by decide⟩
   ·have h1:(i==0)=false:=by simpa using h1
    simp only[go_sem,zS,↓reduceIte,Za,Zb,Zc,reduceCtorEq,aa,zU,Zf,Zg,gZ,oD,hcell,aq,af,i0,h1,c3,this,a1,w1,sh,o1,c5,wi];exact⟨⟨by omega,by omega⟩,by decide⟩
  ·rw[if_neg c4]at hd;have c5:¬(b.toNat:Int)<128:=by omega
   by_cases h1:(i==0)=true
   ·have h3:(b.toNat==128)=false:=by simpa using fun e=>c1 ⟨h1,e⟩
    simp only[go_sem,zS,↓reduceIte,Za,Zb,Zc,reduceCtorEq,aa,zU,Zf,Zg,gZ,oD,hcell,aq,af,i0,h1,b0,h3,c3,a1,w1,sh,o1,c5,wi];exact⟨⟨by omega,by omega⟩,by decide,l.length -(i+1),by omega,i+1,_,by omega,rfl,rfl,rfl,by omega,by rw[hs];exact hd⟩
   ·have h1:(i==0)=false:=by simpa using h1
    simp only[go_sem,zS,↓reduceIte,Za,Zb,Zc,reduceCtorEq,aa,zU,Zf,Zg,gZ,oD,hcell,aq,af,i0,h1,c3,a1,w1,sh,o1,c5,wi];exact⟨⟨by omega,by omega⟩,by decide,l.length -(i+1),by omega,i+1,_,by omega,rfl,rfl,rfl,by omega,by rw[hs];exact hd⟩
 ·have ki:i=l.length:=by omega
  subst ki;rw[List.drop_length,bF]at hd;have:dh l=(0,0):=by unfold dh;rw[hd]
  simp only[go_sem,zS,↓reduceIte,Za,Zb,Zc,reduceCtorEq,aa,zU,Zf,Zg,this]
theorem lu {v:Nat} {r:List UInt8} (h:bF true 0 l=some (v,r)):dh l=(v,l.length -r.length)/\r.length<l.length/\l.drop (l.length -r.length)=r/\v<18446744073709551616:=by
 obtain⟨h1,h2,h3⟩:=fY l true 0 v r h;exact⟨by unfold dh;rw[h],h1,h2.symm,h3⟩
theorem lv (h:bF true 0 l=none):dh l=(0,0):=by unfold dh;rw[h]
def dL (P:Program) (k:FuncId):Prop:=∀(F:Nat->Prop) (r:Nat) (l:List UInt8) (e:Int) (n:Nat) (H:Hp),fA F H r l e->n<=l.length->l.length<=100000000->ai P k #[.pointer (some ⟨r,0,none⟩),.int .i64 n] H fun x H'=>
 ba H' x (w8 (l.take n))/\(∀k,bc x k->H.size<=k)/\fA F H' r (l.drop n) e/\ae (fun k=>k=r) H H'
theorem mQ (hk:ah P k (gV ι) gW 2) (hc:bL P (ι.f 51)):dL P k:=by
 intro F r l e n H hr hn hl;refine ag hk (args:=[_,_]) (by simp) ?_;unfold gV gW kA kB kC kD kU kc kf kg kY kZ;obtain⟨v,B,S,f1,f2,f3⟩:=hr;have pK:=S.cap;rw[af]at pK;simp only[go_sem,zS,↓reduceIte,Za,Zb,Zc,reduceCtorEq,aa,zU,Zf,Zg,B.cell,S.aT,S.len,af];refine And.intro ⟨by omega,by omega⟩ ?_;have ST:=S.take (n:=n) (by rw[af];exact hn);rw[ee]at ST;refine(hc _ _ _ ST (by simp;omega)).mono ?_;rintro x H1 ⟨O1,o1,K1⟩;have B1:=K1.bl B (by simp);have S1:=S.ax K1 (by simp);have SD:=S1.drop (n:=n) (by rw[af];exact hn);rw[j3]at SD;simp only[go_sem,zS,↓reduceIte,Za,Zb,Zc,reduceCtorEq,aa,zU,Zf,Zg,B1.cell,S1.aT,S1.len,af,B1.cE];obtain⟨a,m,c,hsl⟩:∃a m c,fK v 1 (some (n:Int)) none=.slice a m c:=by
  obtain⟨a,c,h,-⟩:=SD.mk;exact⟨_,_,_,h⟩
 have k1:=K1.size;have xX:=B.lt;have KS:=(ae.refl (fun k=>k=r) H1).al (p:=⟨r,0,none⟩) (fK v 1 (some (n:Int)) none) (.inl rfl);have BS:=B1.al 0 (fK v 1 (some (n:Int)) none);rw[hsl]at KS BS SD⊢;refine⟨⟨by omega,by omega⟩,rfl,O1.ax KS (fun k h e=>by have:=o1 k h;omega),o1,⟨_,BS,SD.ax KS (fun k hk=>?_),f1,fun k hk=>?_,fun k hk=>?_⟩,K1.any.trans KS⟩
 ·exact(f2 k (eP (z:=1) (n:=n) (by rw[hsl];exact hk))).2
 ·exact f2 k (eP (z:=1) (n:=n) (by rw[hsl];exact hk))
 ·rw[aX];have:=f3 k hk;omega
def bf (most:Nat) (s:List UInt8×Int):List UInt8×(List UInt8×Int):=
 if s.2≠0 then([],s)else match bF true 0 s.1 with|none=>([],(s.1,6))|some (v,r)=>if v>most then([],(s.1,3))else if v>r.length then([],(s.1,6))else(r.take v,(r.drop v,0))
def di (P:Program) (k:FuncId):Prop:=∀(F:Nat->Prop) (r:Nat) (s:List UInt8×Int) (most:Nat) (H:Hp),fA F H r s.1 s.2->s.1.length<=100000000->most<=1000000000->ai P k #[.pointer (some ⟨r,0,none⟩),.int .i64 most] H fun x H'=>
 ba H' x (w8 (bf most s).1)/\(∀k,bc x k->H.size<=k)/\fA F H' r (bf most s).2.1 (bf most s).2.2/\ae (fun k=>k=r) H H'
theorem lx (hk:ah P k (fq ι) ft 2) (ho:dg P (ι.f 109)) (hrf:fu P (ι.f 110)) (hn:dK P (ι.f 111)) (ht:dL P (ι.f 112)):di P k:=by
 rintro F r ⟨l,e⟩ most H hr hl hm;refine ag hk (args:=[_,_]) (by simp) ?_;unfold fq ft kA kB kF kC kQ kS kT kU kV kc kg kY kZ;simp only at hr hl;simp only[go_sem,zS,↓reduceIte,Za,Zb,Zc,reduceCtorEq,aa,zU,Zf,Zg];refine(ho _ _ _ _ _ hr).mono ?_;rintro x H1 ⟨rfl,rfl⟩
 by_cases c:e=0
 case neg=>
  have e1:(e==0)=false:=by simpa using c
  have:bf most (l,e)=([],(l,e)):=by unfold bf;rw[if_pos (by simpa using c)]
  simp only[go_sem,zS,↓reduceIte,Za,Zb,Zc,reduceCtorEq,aa,zU,Zf,Zg,e1,this];exact⟨ba.nil _,fun k h=>h.elim,hr,ae.refl _ _⟩
 subst c;have xh:¬(most:Int)<0:=by omega
 simp only[go_sem,zS,↓reduceIte,Za,Zb,Zc,reduceCtorEq,aa,zU,Zf,Zg,xh];refine(hrf _ _ _ _ _ _ hr).mono ?_;rintro x H2 ⟨rfl,R2,K2⟩;simp only[Bool.false_eq_true,if_false]at R2;simp only[go_sem,zS,↓reduceIte,Za,Zb,Zc,reduceCtorEq,aa,zU,Zf,Zg];refine(hn _ _ _ _ _ R2 hl).mono ?_;rintro x xY ⟨rfl,rfl⟩;have wm:IntKind.u64.wrap (most:Int)=(most:Int):=by rw[IntKind.wrap_u64];omega
 cases hd:bF true 0 l with
 |none=>
  have:bf most (l,0)=([],(l,6)):=by unfold bf;rw[if_neg (by simp),hd]
  rw[lv hd,this];simp only[go_sem,zS,↓reduceIte,Za,Zb,Zc,reduceCtorEq,aa,zU,Zf,Zg];refine(hrf _ _ _ _ _ _ R2).mono ?_;rintro x H3 ⟨rfl,R3,K3⟩;simp only[go_sem,zS,↓reduceIte,Za,Zb,Zc,reduceCtorEq,aa,zU,Zf,Zg]at R3;simp only[go_sem,zS,↓reduceIte,Za,Zb,Zc,reduceCtorEq,aa,zU,Zf,Zg];exact⟨ba.nil _,fun k h=>h.elim,R3,K2.trans K3⟩
 |some p=>
  obtain⟨v,q⟩:=p;obtain⟨h1,h2,h3,h4⟩:=lu hd;rw[h1];have hq:(((l.length -q.length:Nat):Int)==0)=false:=by simp;omega
  simp only[go_sem,zS,↓reduceIte,Za,Zb,Zc,reduceCtorEq,aa,zU,Zf,Zg,hq];refine(hrf _ _ _ _ _ _ R2).mono ?_;rintro x H3 ⟨rfl,R3,K3⟩;simp only[go_sem,zS,↓reduceIte,Za,Zb,Zc,reduceCtorEq,aa,zU,Zf,Zg]at R3;have vE:bf most (l,0)=if v>most then([],(l,3))else if v>q.length then([],(l,6))else(q.take v,(q.drop v,0)):=by unfold bf;rw[if_neg (by simp),hd]
  by_cases cv:v>most
  ·have uS:(v:Int)>(most:Int):=by omega
   rw[vE,if_pos cv];simp only[go_sem,zS,↓reduceIte,Za,Zb,Zc,reduceCtorEq,aa,zU,Zf,Zg,wm,uS];refine(hrf _ _ _ _ _ _ R3).mono ?_;rintro x H4 ⟨rfl,R4,K4⟩;simp only[go_sem,zS,↓reduceIte,Za,Zb,Zc,reduceCtorEq,aa,zU,Zf,Zg]at R4;simp only[go_sem,zS,↓reduceIte,Za,Zb,Zc,reduceCtorEq,aa,zU,Zf,Zg];exact⟨ba.nil _,fun k h=>h.elim,R4,(K2.trans K3).trans K4⟩
  ·have uS:¬(v:Int)>(most:Int):=by omega
   have wv:IntKind.i64.wrap (v:Int)=(v:Int):=IntWalk.i64_in _ ⟨by omega,by omega⟩;rw[vE,if_neg cv];simp only[go_sem,zS,↓reduceIte,Za,Zb,Zc,reduceCtorEq,aa,zU,Zf,Zg,wm,uS];refine(hrf _ _ _ _ _ _ R3).mono ?_;rintro x H4 ⟨rfl,R4,K4⟩;simp only[go_sem,zS,↓reduceIte,Za,Zb,Zc,reduceCtorEq,aa,zU,Zf,Zg]at R4;have xi:=R4;obtain⟨v4,B4,S4,f41,f42,f43⟩:=xi;have wq:IntKind.u64.wrap (IntKind.i64.wrap ((l.length:Int) -((l.length -q.length:Nat):Int)))=(q.length:Int):=by
    rw[IntWalk.i64_in _ ⟨by omega,by omega⟩,IntKind.wrap_u64];omega
   simp only[go_sem,zS,↓reduceIte,Za,Zb,Zc,reduceCtorEq,aa,zU,Zf,Zg,B4.cell,S4.aT,S4.len,af,wq];refine(hrf _ _ _ _ _ _ R4).mono ?_;rintro x H5 ⟨rfl,R5,K5⟩;have qJ:=((K2.trans K3).trans K4).trans K5
   by_cases cw:v>q.length
   ·have rM:(v:Int)>(q.length:Int):=by omega
    rw[if_pos cw];simp only[go_sem,zS,↓reduceIte,Za,Zb,Zc,reduceCtorEq,aa,zU,Zf,Zg,rM]at R5;simp only[go_sem,zS,↓reduceIte,Za,Zb,Zc,reduceCtorEq,aa,zU,Zf,Zg,rM];exact⟨ba.nil _,fun k h=>h.elim,R5,qJ⟩
   ·have rM:¬(v:Int)>(q.length:Int):=by omega
    rw[if_neg cw];simp only[go_sem,zS,↓reduceIte,Za,Zb,Zc,reduceCtorEq,aa,zU,Zf,Zg,rM]at R5;simp only[go_sem,zS,↓reduceIte,Za,Zb,Zc,reduceCtorEq,aa,zU,Zf,Zg,rM];refine(ht _ _ _ _ _ _ R5 (by omega) hl).mono ?_;rintro x H6 ⟨O6,o6,R6,K6⟩;rw[h3]at R6;simp only[go_sem,zS,↓reduceIte,Za,Zb,Zc,reduceCtorEq,aa,zU,Zf,Zg,wv];refine(ht _ _ _ _ _ _ R6 (by omega) (by omega)).mono ?_;rintro x H7 ⟨O7,o7,R7,K7⟩;simp only[go_sem,zS,↓reduceIte,Za,Zb,Zc,reduceCtorEq,aa,zU,Zf,Zg];have k6:=(qJ.trans K6).size;exact⟨O7,fun k h=>by have:=o7 k h;omega,R7,(qJ.trans K6).trans K7⟩
def fw (P:Program) (k:FuncId):Prop:=∀(F:Nat->Prop) (r:Nat) (s:List UInt8×Int) (most:Nat) (H:Hp),fA F H r s.1 s.2->s.1.length<=100000000->most<=1000000000->ai P k #[.pointer (some ⟨r,0,none⟩),.int .i64 most] H fun x H'=>
 x=.string ⟨(bf most s).1.toArray⟩/\fA F H' r (bf most s).2.1 (bf most s).2.2/\ae (fun k=>k=r) H H'
theorem jE (hk:ah P k (dF ι) dG 2) (hb:di P (ι.f 114)):fw P k:=by
 rintro F r s most H hr hl hm;refine ag hk (args:=[_,_]) (by simp) ?_;unfold dF dG kA kB kC kU kc kg kY;simp only[go_sem,zS,↓reduceIte,Za,Zb,Zc,reduceCtorEq,aa,zU,Zf,Zg];refine(hb _ _ _ _ _ hr hl hm).mono ?_;rintro x H1 ⟨O1,o1,R1,K1⟩;have b1:=O1.sl.aB;simp only[go_sem,zS,↓reduceIte,Za,Zb,Zc,reduceCtorEq,aa,zU,Zf,Zg,b1,toBA_w8];exact⟨iH b1,R1,K1⟩
end Go.Mg
