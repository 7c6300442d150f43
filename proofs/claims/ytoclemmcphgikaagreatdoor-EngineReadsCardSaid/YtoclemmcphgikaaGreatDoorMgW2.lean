/- Lemmas of ours. No conditions. -/
import Derived.Test.YtoclemmcphgikaaGreatDoorMgEl
import Derived.Test.YtoclemmcphgikaaGreatDoorMgKp
open Nat renaming reduceEqDiff→Za,reduceAdd→Zb,reduceMul→Zc
open Int renaming reduceBEq→Zf,reduceBNe→Zg
set_option linter.all false
set_option maxRecDepth 100000
namespace Go.Mg
open Go Go.RowKit
def Be (ι:aG):S:=
 kY [kC 2 (kZ)] (.seq (kY [kA 3 0,kV 4 (.m (.eqn .sl false (.t 3)))] (.ite (.v 4) (kY [kC 2 (kZ)] .ret) .skip)) (kY [.e (.t 5) (.aV (ι.t 19) 1 0 []),kA 6 0,.e (.t 7) (.app false (ι.t 19) 1 1 #[.int .u8 0] (.t 5) (.t 6)),kB 2 7] .ret))
def Bf:List RV:=[.t 2]
def qZ (ι:aG):S:=
 kY [kA 4 0,kL 5 4,kU 6 (.ar .sub .i64 (.t 5) (.c (.int .i64 1))),kC 2 (.int .i64 0),kB 3 6] (.blk 0 (.loop (.seq (kY [kA 7 2,kA 8 3,kV 9 (.cm .lss .i64 (.t 7) (.t 8))] (.ite (.v 9) .skip (.exit 0))) (.seq (.blk 1 (.dr (kW 14 (.mv (.v 0)) (kW 15 (.mv (.v 2)) (kW 16 (.mv (.v 0)) (kW 17 (.mv (.v 3)) (kW 18 (.mv (.v 0)) (kW 19 (.mv (.v 3)) (kW 20 (.is 1 (.t 18) (.t 19)) (kW 22 (.mv (.v 0)) (kW 23 (.mv (.v 2)) (kW 24 (.is 1 (.t 22) (.t 23)) (.wcons (.t 21) .none (.rd (.ld (.t 20))) (.wcons (.t 25) .none (.rd (.ld (.t 24))) (kW 26 (.is 1 (.t 14) (.t 15)) (.wcons .no .none (.st (.t 26) (.t 21)) (kW 27 (.is 1 (.t 16) (.t 17)) (.wcons .no .none (.st (.t 27) (.t 25)) .done .wnil)) .wnil)) .wnil) (.wcons (.t 25) .none (.rd (.ld (.t 24))) (.wcons (.t 21) .none (.rd (.ld (.t 20))) (kW 26 (.is 1 (.t 14) (.t 15)) (.wcons .no .none (.st (.t 26) (.t 21)) (kW 27 (.is 1 (.t 16) (.t 17)) (.wcons .no .none (.st (.t 27) (.t 25)) .done .wnil)) .wnil)) .wnil) .wnil)))))))))))))) (.reg [kA 10 2,kU 11 (.ar .add .i64 (.t 10) (.c (.int .i64 1))),kA 12 3,kU 13 (.ar .sub .i64 (.t 12) (.c (.int .i64 1))),kB 2 11,kB 3 13])))))
def ra:List RV:=[]
def vW (ι:aG):S:=
 kY [kC 2 (kZ)] (kY [kA 4 0,kU 5 (.bt .and .u64 (.t 4) (.c (.int .u64 127))),kU 6 (.ii .u8 (.t 5)),.e (.t 7) (.aV (ι.t 19) 1 1 [.t 6]),kB 3 7] (.seq (kY [kA 8 0,kU 9 (.sh .shr .u64 (.t 8) (.c (.int .u64 7))),kB 0 9] (.blk 0 (.loop (.seq (kY [kA 10 0,kV 11 (.cm .gtr .u64 (.t 10) (.c (.int .u64 0)))] (.ite (.v 11) .skip (.exit 0))) (.seq (.blk 1 (.reg [kA 14 3,kA 15 0,kU 16 (.bt .and .u64 (.t 15) (.c (.int .u64 127))),kU 17 (.ii .u8 (.t 16)),kU 18 (.bt .or .u8 (.t 17) (.c (.int .u8 128))),.e (.t 19) (.aV (ι.t 19) 1 1 [.t 18]),.e (.t 20) (.app false (ι.t 19) 1 1 #[.int .u8 0] (.t 14) (.t 19)),kB 3 20])) (.reg [kA 12 0,kU 13 (.sh .shr .u64 (.t 12) (.c (.int .u64 7))),kB 0 13])))))) (kY [kA 21 3,.e (.t 22) (.call (ι.f 52) [.t 21])] (kY [kA 23 3,kB 2 23] .ret))))
def vX:List RV:=[.t 2]
def Hw (ι:aG):S:=
 kY [kC 0 (.pointer .none)] (kY [kU 1 (.m (.bld #[kZ] [])),.e (.t 2) (.box (ι.t 54) (.t 1)),kB 0 2] .ret)
def Hx:List RV:=[.t 0]
def Hy (ι:aG):S:=
 kY [kA 4 0,kV 5 (.m (.eqn .ptr true (.t 4)))] (.ite (.v 5) (.reg [kA 6 0,kA 7 0,kU 8 (.nil (.t 7)),kU 9 (.fa 0 (.t 8)),kD 10 9,kA 11 1,.e (.t 12) (.app false (ι.t 19) 1 1 #[.int .u8 0] (.t 10) (.t 11)),kU 13 (.nil (.t 6)),kU 14 (.fa 0 (.t 13)),.e .no (.st (.t 14) (.t 12))]) .skip)
def Hz:List RV:=[]
def Bg (ι:aG):S:=
 .reg [kA 4 0,kA 5 1,.e (.t 6) (.call (ι.f 53) [.t 5]),.e (.t 7) (.call (ι.f 56) [.t 4,.t 6])]
def Bh:List RV:=[]
def vY (ι:aG):S:=
 kY [kA 4 0,kA 5 1,kL 6 5,kU 7 (.ii .u64 (.t 6)),.e (.t 8) (.call (ι.f 57) [.t 4,.t 7])] (.reg [kA 9 0,kA 10 1,.e (.t 11) (.call (ι.f 56) [.t 9,.t 10])])
def vZ:List RV:=[]
def re (ι:aG):S:=
 .reg [kA 4 0,kA 5 1,.e (.t 6) (.s2b (ι.t 19) (.t 5)),.e (.t 7) (.call (ι.f 58) [.t 4,.t 6])]
def rh:List RV:=[]
def HE (ι:aG):S:=
 kY [kC 2 (kZ)] (.seq (kY [kA 3 0,kV 4 (.m (.eqn .ptr false (.t 3)))] (.ite (.v 4) (kY [kC 2 (kZ)] .ret) .skip)) (kY [kA 5 0,kU 6 (.nil (.t 5)),kU 7 (.fa 0 (.t 6)),kD 8 7,.e (.t 9) (.call (ι.f 51) [.t 8]),kB 2 9] .ret))
def HF:List RV:=[.t 2]
def HG (ι:aG):S:=
 kY [kC 2 (kZ)] (kY [kA 4 0,kU 5 (.dv .rem .u64 (.t 4) (.c (.int .u64 128))),kU 6 (.ii .u8 (.t 5)),.e (.t 7) (.aV (ι.t 19) 1 1 [.t 6]),kB 3 7] (.seq (.blk 0 (.loop (.seq (kY [kA 8 0,kV 9 (.cm .geq .u64 (.t 8) (.c (.int .u64 128)))] (.ite (.v 9) .skip (.exit 0))) (.blk 1 (kY [kA 10 0,kU 11 (.dv .quo .u64 (.t 10) (.c (.int .u64 128))),kB 0 11] (.reg [kA 12 0,kU 13 (.dv .rem .u64 (.t 12) (.c (.int .u64 128))),kU 14 (.ii .u8 (.t 13)),kU 15 (.ar .add .u8 (.t 14) (.c (.int .u8 128))),.e (.t 16) (.aV (ι.t 19) 1 1 [.t 15]),kA 17 3,.e (.t 18) (.app false (ι.t 19) 1 1 #[.int .u8 0] (.t 16) (.t 17)),kB 3 18])))))) (kY [kA 19 3,kB 2 19] .ret)))
def HH:List RV:=[.t 2]
def lX (ι:aG):S:=
 kY [kC 2 (kZ)] (kY [kA 3 0,kL 4 3,kU 5 (.ii .u64 (.t 4)),.e (.t 6) (.call (ι.f 61) [.t 5]),kA 7 0,.e (.t 8) (.app false (ι.t 19) 1 1 #[.int .u8 0] (.t 6) (.t 7)),kB 2 8] .ret)
def lY:List RV:=[.t 2]
def QX (u:Nat):List UInt8:=if h:u=0 then[]else UInt8.ofNat (u % 128+128)::QX (u/128)
termination_by u
decreasing_by omega
def le7 (v:Nat):List UInt8:=UInt8.ofNat (v % 128)::QX (v/128)
def du (v:Nat):List UInt8:=(le7 v).reverse
def dw (l:List UInt8):List UInt8:=du l.length++l
theorem Ej:QX 0=[]:=by rw[QX];simp
theorem tE {u:Nat} (h:u≠0):QX u=UInt8.ofNat (u % 128+128)::QX (u/128):=by rw[QX];simp[h]
theorem JJ:∀(k u:Nat),u<128^k->(QX u).length<=k
 |0,u,h=>by
  have:u=0:=by simpa using h
  subst this;rw[Ej];simp
 |k+1,u,h=>by
  by_cases hu:u=0
  ·subst hu;rw[Ej];simp
  ·rw[tE hu];have:=JJ k (u/128) (by rw[Nat.pow_succ]at h;omega);simp only[List.length_cons];omega
theorem aP (v:Nat) (h:v<18446744073709551616):(du v).length<=11:=by
 have:=JJ 10 (v/128) (by omega);simp only[du,le7,List.length_reverse,List.length_cons];omega
def jr (P:Program) (k:FuncId):Prop:=∀(l:List UInt8) (v:Value) (H:Hp),aO H v (w8 l)->l.length<=100000000->an P k #[v] H fun r H'=>bq H' r (w8 l)/\(∀k,ax r k->H.size<=k)/\af (fun _=>False) H H'
variable {P:Program} {ι:aG} {k:FuncId} {l x:List UInt8} {i w:Nat} {F:Nat->Prop} {H:Hp}
theorem QY (hk:al P k (Be ι) Bf 1):jr P k:=by
 intro l v H hv hl;refine ah hk (args:=[_]) (by simp) ?_;unfold Be Bf kA kB kC kV kY kZ;obtain⟨a,c,rfl,hc⟩:=hv.mk
 cases a with
 |none=>
  have hl0:l=[]:=by
   rcases hv with⟨_,_,_,h⟩|⟨b,o,c',h,e,_⟩
   ·simpa[w8]using h
   ·simp at e
  subst hl0;simp only[go_sem,zS,↓reduceIte,Za,Zb,Zc,reduceCtorEq,ae];exact⟨bq.nil _,fun k h=>h.elim,af.refl _ _⟩
 |some p=>
  simp only[go_sem,zS,↓reduceIte,Za,Zb,Zc,reduceCtorEq];refine aF fun H1 b1 e1 z1 B1 K1=>?_;have k1:=K1.size;simp only[go_sem,zS,↓reduceIte,Za,Zb,Zc,reduceCtorEq,ae];refine jJ H.size (l:=[]) (m:=l) (bq.new B1 rfl rfl) (fun k (h:k=b1)=>by omega) (by omega) (hv.ai K1 (by simp)) rfl (by simp;omega) fun v2 H2 O2 o2 K2=>?_;simp only[go_sem,zS,↓reduceIte,Za,Zb,Zc,reduceCtorEq,ae];exact⟨O2,o2,K1.gV K2 (by omega)⟩
def ni (l:List UInt8) (i:Nat) (x:List UInt8):Prop:=x.length=l.length/\∀j,j<l.length->x.getD j 0=if j<i\/l.length<=i+j then l.getD (l.length -1 -j) 0 else l.getD j 0
theorem ni.zero (l:List UInt8):ni l 0 l:=⟨rfl,fun j hj=>by rw[if_neg (by omega)]⟩
theorem xU (x:List UInt8) (i j:Nat) (y:UInt8) (h:i<x.length):(x.set i y).getD j 0=if j=i then y else x.getD j 0:=by
 by_cases e:j=i
 ·subst e;rw[if_pos rfl,List.getD_eq_getElem?_getD,List.getElem?_set_self h];rfl
 ·rw[if_neg e,List.getD_eq_getElem?_getD,List.getElem?_set_ne (Ne.symm e),<-List.getD_eq_getElem?_getD]
theorem ni.step (h:ni l i x) (hi:2*i+1<l.length):ni l (i+1) ((x.set i (x.getD (l.length -1 -i) 0)).set (l.length -1 -i) (x.getD i 0)):=by
 obtain⟨h1,h2⟩:=h;refine⟨by simp[h1],fun j hj=>?_⟩;have q1:x.getD i 0=l.getD i 0:=by rw[h2 i (by omega),if_neg (by omega)]
 have q2:x.getD (l.length -1 -i) 0=l.getD (l.length -1 -i) 0:=by rw[h2 (l.length -1 -i) (by omega),if_neg (by omega)]
 rw[q1,q2,xU _ _ _ _ (by simp;omega),xU _ _ _ _ (by omega),h2 j hj]
 by_cases e1:j=l.length -1 -i
 ·rw[if_pos e1,if_pos (by omega)];congr 1;omega
 ·rw[if_neg e1]
  by_cases e2:j=i
  ·rw[if_pos e2,if_pos (by omega)];congr 1;omega
  ·rw[if_neg e2]
   by_cases e3:j<i\/l.length<=i+j
   ·rw[if_pos e3,if_pos (by omega)]
   ·rw[if_neg e3,if_neg (by omega)]
theorem ni.all (h:ni l i x) (hi:l.length<=2*i+1):x=l.reverse:=by
 obtain⟨h1,h2⟩:=h;apply List.ext_getElem (by simp[h1]);intro j g1 g2;have:=h2 j (by omega);have e1:x.getD j 0=x[j]:=by simp[g1]
 have e2:l.reverse[j]=l.getD (l.length -1 -j) 0:=by
  rw[List.getElem_reverse];simp[show l.length -1 -j<l.length by omega]
 rw[<-e1,e2,this]
 split
 ·rfl
 ·congr 1;omega
def JK (P:Program) (k:FuncId):Prop:=∀(l:List UInt8) (v:Value) (H:Hp),bq H v (w8 l)->l.length<=100000000->an P k #[v] H fun r H'=>r=.tuple #[]/\bq H' v (w8 l.reverse)/\af (ax v) H H'
theorem HI (hk:al P k (qZ ι) ra 1):JK P k:=by
 intro l v H hv hl;refine ah hk (args:=[_]) (by simp) ?_;unfold qZ ra kA kB kC kL kU kV kW kY;simp(disch:=omega)only[go_sem,zS,↓reduceIte,Za,Zb,Zc,reduceCtorEq,ae,hv.sl.aq,hv.sl.len,aK,IntWalk.i64_in];refine aS [9,2,3] rfl (fun n f H'=>∃i x,2*i<=l.length+1/\n=l.length -i/\f 2=.int .i64 i/\f 3=.int .i64 ((l.length:Int) -1 -i)/\ni l i x/\bq H' v (w8 x)/\af (ax v) H H') l.length
  ⟨0,l,by omega,by omega,rfl,by simp only[go_sem,zS,↓reduceIte,Za,Zb,Zc,reduceCtorEq,ae];simp,ni.zero l,hv,af.refl _ _⟩ ?_
 rintro n g H1 ⟨i,x,hi,rfl,hf2,sW,hR,hO,K1⟩;simp only[go_sem,zS,↓reduceIte,Za,Zb,Zc,reduceCtorEq,ae]at hf2 sW;simp only[go_sem,zS,↓reduceIte,Za,Zb,Zc,reduceCtorEq,ae,hf2,sW];refine aL (fun hlt=>?_) (fun jN=>?_)
 ·have mU:2*i+1<l.length:=by omega
  have hxl:=hR.1;obtain⟨b,c,L,rfl,h1,h2,hB,h3,hg⟩:=hO.some (by intro e;have h:=congrArg List.length e;rw[aK,List.length_nil]at h;omega);rw[aK]at h1 h3 hg;have ej:((l.length:Int) -1 -i)=((l.length -1 -i:Nat):Int):=by omega
  have gi:L[i]?=some (.int .u8 (x.getD i 0).toNat):=by rw[hg i (by omega),jH _ _ (by omega)]
  have gj:L[l.length -1 -i]?=some (.int .u8 (x.getD (l.length -1 -i) 0).toNat):=by rw[hg _ (by omega),jH _ _ (by omega)]
  have B2:=hB.az i (.int .u8 (x.getD (l.length -1 -i) 0).toNat);have g2:(L.set i (.int .u8 (x.getD (l.length -1 -i) 0).toNat))[l.length -1 -i]?=some (.int .u8 (x.getD (l.length -1 -i) 0).toNat):=by
   rw[List.getElem?_set_ne (by omega)];exact gj
  refine bo (fun k=>k=b) ?_;simp(disch:=omega)only[go_sem,zS,↓reduceIte,Za,Zb,Zc,reduceCtorEq,ae,hf2,sW,ej,hB.cell,hB.rO,gi,gj,B2.cell,B2.rO,g2,ak];rw[aK];have B3:=B2.az (l.length -1 -i) (.int .u8 (x.getD i 0).toNat);have hO2:=yu (i:=i) (v:=.int .u8 (x.getD (l.length -1 -i) 0).toNat) hB (l:=w8 x) (by rw[aK];exact h1) h2 (by rw[aK];exact h3) (by rw[aK];omega);have hO3:=bq.bl (n:=x.length) (c:=c) B3 (l:=w8 ((x.set i (x.getD (l.length -1 -i) 0)).set (l.length -1 -i) (x.getD i 0))) (by simp[aK]) h1 (by simpa using h2) (by rw[List.take_set,List.take_set,h3,yt,yt]);have KA:af (fun k=>k=b) H1 (az H1 ⟨b,i,none⟩ (.int .u8 (x.getD (l.length -1 -i) 0).toNat)):=(af.refl _ _).az _ (.inl rfl);have e1:IntKind.i64.wrap ((i:Int)+1)=((i+1:Nat):Int):=by rw[IntWalk.i64_in _ ⟨by omega,by omega⟩];simp
  have e2:IntKind.i64.wrap (((l.length -1 -i:Nat):Int) -1)=(l.length:Int) -1 -((i+1:Nat):Int):=by rw[IntWalk.i64_in _ ⟨by omega,by omega⟩];omega
  rw[e1,e2];have fin:∃m,m<l.length -i/\∃i_1 x_1,2*i_1<=l.length+1/\m=l.length -i_1/\Value.int IntKind.i64 ((i+1:Nat):Int)=Value.int IntKind.i64 ↑i_1/\Value.int IntKind.i64 ((l.length:Int) -1 -((i+1:Nat):Int))=Value.int IntKind.i64 (↑l.length -1 -↑i_1)/\ni l i_1 x_1∧
    bq (az (az H1 ⟨b,i,none⟩ (.int .u8 (x.getD (l.length -1 -i) 0).toNat)) ⟨b,l.length -1 -i,none⟩ (.int .u8 (x.getD i 0).toNat)) (.slice (some ⟨b,0,none⟩) x.length c) (w8 x_1)∧
    af (ax (.slice (some ⟨b,0,none⟩) x.length c)) H (az (az H1 ⟨b,i,none⟩ (.int .u8 (x.getD (l.length -1 -i) 0).toNat)) ⟨b,l.length -1 -i,none⟩ (.int .u8 (x.getD i 0).toNat)):=by
   rw[aK]at K1;exact⟨l.length -(i+1),by omega,i+1,_,by omega,rfl,rfl,rfl,hR.step mU,hO3,(K1.az (p:=⟨b,i,none⟩) _ (.inl rfl)).az (p:=⟨b,l.length -1 -i,none⟩) _ (.inl rfl)⟩
  have KB:=(af.refl (fun k=>k=b) (az H1 ⟨b,i,none⟩ (.int .u8 (x.getD (l.length -1 -i) 0).toNat))).az (p:=⟨b,l.length -1 -i,none⟩) (.int .u8 (x.getD i 0).toNat) (.inl rfl);have K0:af (fun k=>k=b) H1 H1:=af.refl _ _;refine⟨by omega,by omega,⟨K0,K0,by omega,KA,by omega,KB,fin⟩,⟨K0,K0,by omega,KA,by omega,KB,fin⟩⟩
 ·have:=hR.all (by omega);subst this;exact⟨hO,K1⟩
theorem QZ (v:Nat) (h:v<18446744073709551616):bits .and .u64 (v:Int) 127=((v % 128:Nat):Int):=by
 have e:(v:Int)=((UInt64.ofNat v).toNat:Int):=by rw[UInt64.toNat_ofNat'];omega
 have e2:(127:Int)=((127:UInt64).toNat:Int):=rfl;rw[e,e2,lq,UInt64.toNat_and,UInt64.toNat_ofNat'];have:(127:UInt64).toNat=2^7 -1:=rfl;rw[this,Nat.and_two_pow_sub_one_eq_mod];omega
theorem acA (x:Nat) (h:x<128):bits .or .u8 (x:Int) 128=((x+128:Nat):Int):=by
 have:∀m:Fin 128,bits .or .u8 ((m.val:Nat):Int) 128=((m.val+128:Nat):Int):=by decide+kernel
 exact this ⟨x,h⟩
theorem JL (n:Nat) (h:n<256):(n:Int)=((UInt8.ofNat n).toNat:Int):=by rw[UInt8.toNat_ofNat'];omega
def jY (P:Program) (k:FuncId):Prop:=∀(v:Nat) (H:Hp),v<18446744073709551616->an P k #[.int .u64 v] H fun r H'=>bq H' r (w8 (du v))/\(∀k,ax r k->H.size<=k)/\af (fun _=>False) H H'
theorem Md (hk:al P k (vW ι) vX 1) (hr:JK P (ι.f 52)):jY P k:=by
 intro v H hv;refine ah hk (args:=[_]) (by simp) ?_;unfold vW vX kA kB kC kU kV kY kZ;have a1:=QZ v hv;have w1:∀m:Nat,m<256->IntKind.u8.wrap (m:Int)=(m:Int):=fun m hm=>by rw[IntKind.wrap_u8];omega
 have sh:∀u:Nat,(u:Int)/2^7=((u/128:Nat):Int):=fun u=>by
  have:(2^7:Int)=128:=by decide
  rw[this];omega
 simp(disch:=omega)only[go_sem,zS,↓reduceIte,Za,Zb,Zc,reduceCtorEq,a1,w1];refine aF fun H1 b1 e1 z1 B1 K1=>?_;have k1:=K1.size;have B1:Bl H1 b1 (w8 [UInt8.ofNat (v % 128)]):=by
  have e:=JL (v % 128) (by omega);simp only[w8,List.map_cons,List.map_nil,<-e];exact B1
 simp only[go_sem,zS,↓reduceIte,Za,Zb,Zc,reduceCtorEq,ae,sh];refine And.intro (by omega) ?_;refine aS [11,3,0] rfl (fun n f H'=>∃(u:Nat) (out:List UInt8),n=u/\u<18446744073709551616/\f 0=.int .u64 u/\bq H' (f 3) (w8 out)/\(∀k,ax (f 3) k->H.size<=k)/\out++QX u=le7 v/\af (fun _=>False) H H') (v/128)
  ⟨v/128,[UInt8.ofNat (v % 128)],rfl,by omega,rfl,bq.new B1 (by simp[w8]) rfl,fun k (h:k=b1)=>by omega,rfl,K1⟩ ?_
 rintro n g H2 ⟨u,out,rfl,hu,VJ,O2,o2,ho,K2⟩;have hol:out.length<=11:=by
  have:=aP v hv;simp only[du,List.length_reverse,<-ho,List.length_append]at this;omega
 simp only[go_sem,zS,↓reduceIte,Za,Zb,Zc,reduceCtorEq,ae]at VJ O2 o2;simp only[go_sem,zS,↓reduceIte,Za,Zb,Zc,reduceCtorEq,ae,VJ];refine aL (fun hlt=>?_) (fun jN=>?_)
 ·have hu0:n≠0:=by omega
  have a2:=QZ n hu;have o1:=acA (n % 128) (by omega);simp(disch:=omega)only[go_sem,zS,↓reduceIte,Za,Zb,Zc,reduceCtorEq,ae,VJ,a2,w1,o1,sh];generalize hA:Array.push H2 _=H3;have B3:Bl H3 H2.size (w8 [UInt8.ofNat (n % 128+128)]):=by
   have e:=JL (n % 128+128) (by omega);rw[<-hA];simp only[w8,List.map_cons,List.map_nil,<-e];exact Bl.cS _ _ _
  have K3:af (fun _=>False) H2 H3:=by rw[<-hA];exact(af.refl _ _).push _
  have K3':=K2.trans K3;refine jJ H.size (l:=out) (m:=[UInt8.ofNat (n % 128+128)]) (O2.ai K3 (by simp)) o2 (by have:=K3'.size;omega) (aO.bl (l:=w8 [UInt8.ofNat (n % 128+128)]) B3 0 1 1 (by omega) (by simp[w8])) rfl (by simp;omega) fun v4 H4 O4 o4 K4=>?_;simp(disch:=omega)only[go_sem,zS,↓reduceIte,Za,Zb,Zc,reduceCtorEq,ae,VJ,sh];refine And.intro (by omega) ?_;refine⟨n/128,by omega,n/128,_,rfl,by omega,rfl,O4,o4,?_,K3'.gV K4 (by omega)⟩;rw[List.append_assoc,List.singleton_append,<-tE hu0];exact ho
 ·have hu0:n=0:=by omega
  subst hu0;rw[Ej,List.append_nil]at ho;subst ho;refine(hr _ _ _ O2 (by omega)).mono ?_;rintro r H3 ⟨rfl,O3,K3⟩;simp only[go_sem,zS,↓reduceIte,Za,Zb,Zc,reduceCtorEq,ae];exact⟨O3,o2,K2.trans' K3 (fun i hi e=>by have:=o2 i e;omega)⟩
theorem VK (hk:al P k (HG ι) HH 1):jY P k:=by
 intro v H hv;refine ah hk (args:=[_]) (by simp) ?_;unfold HG HH kA kB kC kU kV kY kZ;have w1:∀m:Nat,m<256->IntKind.u8.wrap (m:Int)=(m:Int):=fun m hm=>by rw[IntKind.wrap_u8];omega
 have w2:∀m:Nat,m<128->IntKind.u8.wrap ((m:Int)+128)=((m+128:Nat):Int):=fun m hm=>by rw[IntKind.wrap_u8];omega
 have w6:∀m:Nat,m<18446744073709551616->IntKind.u64.wrap (m:Int)=(m:Int):=fun m hm=>by rw[IntKind.wrap_u64];omega
 have rm:∀u:Nat,(u:Int).tmod 128=((u % 128:Nat):Int):=fun u=>by rw[Int.tmod_eq_emod_of_nonneg (by omega)];omega
 have qu:∀u:Nat,(u:Int).tdiv 128=((u/128:Nat):Int):=fun u=>by rw[Int.tdiv_eq_ediv_of_nonneg (by omega)];omega
 simp(disch:=omega)only[go_sem,zS,↓reduceIte,Za,Zb,Zc,reduceCtorEq,rm,w1,w6];refine And.intro (by omega) (aF fun H1 b1 e1 z1 B1 K1=>?_);have k1:=K1.size;have B1:Bl H1 b1 (w8 [UInt8.ofNat (v % 128)]):=by
  have e:=JL (v % 128) (by omega);simp only[w8,List.map_cons,List.map_nil,<-e];exact B1
 simp only[go_sem,zS,↓reduceIte,Za,Zb,Zc,reduceCtorEq,ae];refine aS [9,0,3] rfl (fun n f H'=>∃(u:Nat) (out:List UInt8),n=u/\u<18446744073709551616/\f 0=.int .u64 u/\bq H' (f 3) (w8 out)/\(∀k,ax (f 3) k->H.size<=k)/\out.reverse++QX (u/128)=le7 v/\af (fun _=>False) H H') v
  ⟨v,[UInt8.ofNat (v % 128)],rfl,hv,rfl,bq.new B1 (by simp[w8]) rfl,fun k (h:k=b1)=>by omega,rfl,K1⟩ ?_
 rintro n g H2 ⟨u,out,rfl,hu,VJ,O2,o2,ho,K2⟩;have hol:out.length<=11:=by
  have:=aP v hv;simp only[du,List.length_reverse,<-ho,List.length_append]at this;omega
 simp only[go_sem,zS,↓reduceIte,Za,Zb,Zc,reduceCtorEq,ae]at VJ O2 o2;simp only[go_sem,zS,↓reduceIte,Za,Zb,Zc,reduceCtorEq,ae,VJ];refine aL (fun hlt=>?_) (fun jN=>?_)
 ·have hu0:n/128≠0:=by omega
  simp(disch:=omega)only[go_sem,zS,↓reduceIte,Za,Zb,Zc,reduceCtorEq,ae,VJ,qu,rm,w1,w2,w6];have hd:n/128 % 128+128<256:=by omega
  generalize hA:Array.push H2 _=H3;have B3:Bl H3 H2.size (w8 [UInt8.ofNat (n/128 % 128+128)]):=by
   have e:=JL (n/128 % 128+128) hd;rw[<-hA];simp only[w8,List.map_cons,List.map_nil,<-e];exact Bl.cS _ _ _
  have K3:af (fun _=>False) H2 H3:=by rw[<-hA];exact(af.refl _ _).push _
  have K3':=K2.trans K3;have k2:=K2.size;refine⟨by omega,by omega,jJ H.size (l:=[UInt8.ofNat (n/128 % 128+128)]) (m:=out) (bq.new B3 (by simp[w8]) rfl) (fun k (h:k=H2.size)=>by omega) (by have:=K3'.size;omega) ((O2.ai K3 (by simp)).sl) rfl (by simp;omega) fun v4 H4 O4 o4 K4=>?_⟩;simp(disch:=omega)only[go_sem,zS,↓reduceIte,Za,Zb,Zc,reduceCtorEq,ae,VJ];refine⟨n/128,by omega,n/128,_,rfl,by omega,rfl,O4,o4,?_,K3'.gV K4 (by omega)⟩;rw[List.reverse_append,List.append_assoc];rw[tE hu0]at ho;exact ho
 ·have hu0:n/128=0:=by omega
  rw[hu0,Ej,List.append_nil]at ho;have:out=du v:=by rw[du,<-ho,List.reverse_reverse]
  subst this;exact⟨O2,o2,K2⟩
def grow (F:Nat->Prop) (H H':Hp):Nat->Prop:=fun k=>F k\/(H.size<=k/\k<H'.size)
def wS (F:Nat->Prop) (H:Hp) (w:Nat) (l:List UInt8):Prop:=∃v,Bl H w [v]/\bq H v (w8 l)/\¬ax v w/\F w/\(∀k,ax v k->F k)/\∀k,F k->k<H.size
theorem wS.ai {W:Nat->Prop} {H':Hp} (h:wS F H w l) (hk:af W H H') (hw:∀k,F k->¬W k):wS F H' w l:=by
 obtain⟨v,h1,h2,h3,h4,h5,h6⟩:=h;exact⟨v,hk.bl h1 (hw _ h4),h2.ai hk (fun k hb=>hw k (h5 k hb)),h3,h4,h5,fun k hf=>Nat.lt_of_lt_of_le (h6 k hf) hk.size⟩
theorem wS.bound (h:wS F H w l):∀k,F k->k<H.size:=let⟨_,_,_,_,_,_,h6⟩:=h;h6
def pK (P:Program) (k:FuncId):Prop:=∀(F:Nat->Prop) (w:Nat) (l m:List UInt8) (v:Value) (H:Hp),wS F H w l->aO H v (w8 m)->l.length+m.length<=100000000→
 an P k #[.pointer (some ⟨w,0,none⟩),v] H fun r H'=>r=.tuple #[]/\wS (grow F H H') H' w (l++m)/\af F H H'
theorem VL (hk:al P k (Hy ι) Hz 2):pK P k:=by
 intro F w l m v H hw hv hlm;refine ah hk (args:=[_,_]) (by simp) ?_;unfold Hy Hz kA kD kU kV kY;obtain⟨u,hB,hO,hn,hFw,hFo,hFs⟩:=hw;simp only[go_sem,zS,↓reduceIte,Za,Zb,Zc,reduceCtorEq,ae,hB.cell];refine qi hO hv rfl (by omega) fun v1 H1 O1 K1 o1=>?_;have B1:=K1.bl hB hn;have hwl:=hB.lt;have h1:=K1.size;have n1:¬ax v1 w:=fun h=>by rcases o1 w h with h|h;exact hn h;omega
 obtain⟨a1,m1,c1,rfl⟩:=O1.shape;have B2:=B1.az 0 (.slice a1 m1 c1);simp only[go_sem,zS,↓reduceIte,Za,Zb,Zc,reduceCtorEq,ae,B1.cell,B1.rO];refine⟨⟨_,B2,O1.ai ((af.refl (fun k=>k=w) H1).az (p:=⟨w,0,none⟩) (.slice a1 m1 c1) (.inl rfl)) (fun k h e=>n1 (e▸h)),n1,.inl hFw,fun k h=>?_,fun k h=>?_⟩,(K1.mono fun k _ h=>hFo k h).az (p:=⟨w,0,none⟩) _ (.inl hFw)⟩
 ·rcases o1 k h with h'|h'
  ·exact .inl (hFo k h')
  ·exact .inr ⟨h',by rw[dF];exact O1.bj h⟩
 ·have hz:=dF H1 ⟨w,0,none⟩ (.slice a1 m1 c1);rw[hz];rcases h with h|h
  ·have:=hFs k h;omega
  ·rw[hz]at h;exact h.2
def v7 (P:Program) (k:FuncId):Prop:=∀H,an P k #[] H fun r H'=>r=.pointer (some ⟨H.size,0,none⟩)/\wS (fun k=>k=H.size) H' H.size []/\af (fun _=>False) H H'
theorem JM (hk:al P k (Hw ι) Hx 0):v7 P k:=by
 intro H;refine ah hk (args:=[]) (by simp) ?_;unfold Hw Hx kB kC kU kY kZ;simp only[go_sem,zS,↓reduceIte,Za,Zb,Zc,reduceCtorEq,dV,fG];refine ay fun H1 b1 e1 z1 B1 K1=>?_;subst e1;simp only[go_sem,zS,↓reduceIte,Za,Zb,Zc,reduceCtorEq,ae];exact⟨⟨_,B1,bq.nil _,fun h=>h.elim,rfl,fun k h=>h.elim,fun k h=>by omega⟩,K1⟩
def gJ (P:Program) (k:FuncId):Prop:=∀(F:Nat->Prop) (w:Nat) (l:List UInt8) (v:Nat) (H:Hp),wS F H w l->v<18446744073709551616->l.length<=90000000→
 an P k #[.pointer (some ⟨w,0,none⟩),.int .u64 v] H fun r H'=>r=.tuple #[]/\wS (grow F H H') H' w (l++du v)/\af F H H'
theorem wS.mono {G:Nat->Prop} (h:wS F H w l) (hf:∀k,F k->G k) (hg:∀k,G k->k<H.size):wS G H w l:=by
 obtain⟨v,h1,h2,h3,h4,h5,h6⟩:=h;exact⟨v,h1,h2,h3,hf _ h4,fun k hk=>hf k (h5 k hk),hg⟩
theorem Q0 (hk:al P k (Bg ι) Bh 2) (hg:jY P (ι.f 53)) (hr:pK P (ι.f 56)):gJ P k:=by
 intro F w l v H hw hv hl;refine ah hk (args:=[_,_]) (by simp) ?_;unfold Bg Bh kA;simp only[go_sem,zS,↓reduceIte,Za,Zb,Zc,reduceCtorEq,ae];refine(hg _ _ hv).mono ?_;rintro r1 H1 ⟨O1,o1,K1⟩;have:=aP v hv;have k1:=K1.size;have hb:=hw.bound;simp only[go_sem,zS,↓reduceIte,Za,Zb,Zc,reduceCtorEq,ae];refine(hr _ _ _ _ _ _ (hw.ai K1 (by simp)) O1.sl (by omega)).mono ?_;rintro r H2 ⟨rfl,W2,K2⟩;simp only[go_sem,zS,↓reduceIte,Za,Zb,Zc,reduceCtorEq,ae];refine⟨W2.mono (fun k h=>?_) (fun k h=>?_),K1.any.trans K2⟩
 ·rcases h with h|h
  ·exact .inl h
  ·exact .inr ⟨by omega,h.2⟩
 ·have:=K2.size;rcases h with h|h
  ·have:=hb k h;omega
  ·exact h.2
def fq (P:Program) (k:FuncId):Prop:=∀(F:Nat->Prop) (w:Nat) (l m:List UInt8) (v:Value) (H:Hp),wS F H w l->aO H v (w8 m)->(∀k,aT v k->¬F k)->l.length+m.length<=80000000→
 an P k #[.pointer (some ⟨w,0,none⟩),v] H fun r H'=>r=.tuple #[]/\wS (grow F H H') H' w (l++dw m)/\af F H H'
theorem Me (hk:al P k (vY ι) vZ 2) (hu:gJ P (ι.f 57)) (hr:pK P (ι.f 56)):fq P k:=by
 intro F w l m v H hw hv hvF hl;refine ah hk (args:=[_,_]) (by simp) ?_;unfold vY vZ kA kL kU kY;have w6:IntKind.u64.wrap (m.length:Int)=(m.length:Int):=by rw[IntKind.wrap_u64];omega
 simp only[go_sem,zS,↓reduceIte,Za,Zb,Zc,reduceCtorEq,ae,hv.aq,hv.len,aK,w6];refine(hu _ _ _ _ _ hw (by omega) (by omega)).mono ?_;rintro r1 H1 ⟨rfl,W1,K1⟩;have k1:=K1.size;have hb:=hw.bound;have:=aP m.length (by omega);simp only[go_sem,zS,↓reduceIte,Za,Zb,Zc,reduceCtorEq,ae];refine(hr _ _ _ _ _ _ W1 (hv.ai K1 hvF) (by rw[List.length_append];omega)).mono ?_;rintro r H2 ⟨rfl,W2,K2⟩;have k2:=K2.size;simp only[go_sem,zS,↓reduceIte,Za,Zb,Zc,reduceCtorEq,ae];rw[List.append_assoc]at W2;refine⟨W2.mono (fun k h=>?_) (fun k h=>?_),K1.trans' K2 (fun i hi h=>?_)⟩
 ·rcases h with(h|h)|h
  ·exact .inl h
  ·exact .inr ⟨h.1,by omega⟩
  ·exact .inr ⟨by omega,h.2⟩
 ·rcases h with h|h
  ·have:=hb k h;omega
  ·exact h.2
 ·rcases h with h|h
  ·exact h
  ·omega
def lZ (P:Program) (k:FuncId):Prop:=∀(F:Nat->Prop) (w:Nat) (l m:List UInt8) (H:Hp),wS F H w l->l.length+m.length<=80000000→
 an P k #[.pointer (some ⟨w,0,none⟩),.string ⟨m.toArray⟩] H fun r H'=>r=.tuple #[]/\wS (grow F H H') H' w (l++dw m)/\af F H H'
theorem JN (H:Hp) (m:List UInt8) (T:TypeId) (c:Nat) (hc:m.length<=c):af (fun _=>False) H (H.push (.cells (byteCells ⟨m.toArray⟩++Array.replicate (c -m.length) (.int .u8 0)) T (c,c+1)))∧
  aO (H.push (.cells (byteCells ⟨m.toArray⟩++Array.replicate (c -m.length) (.int .u8 0)) T (c,c+1))) (.slice (some ⟨H.size,0,none⟩) m.length c) (w8 m):=by
 have hbc:(byteCells ⟨m.toArray⟩).toList=w8 m:=by simp[byteCells,w8]
 refine⟨(af.refl _ _).push _,?_⟩;have:=aO.at_ (H:=H.push (.cells (byteCells ⟨m.toArray⟩++Array.replicate (c -m.length) (.int .u8 0)) T (c,c+1))) (b:=H.size) (o:=0) (c:=c) (l:=w8 m) (C:=byteCells ⟨m.toArray⟩++Array.replicate (c -m.length) (.int .u8 0)) (T:=T) (z:=(c,c+1)) (by rw[aK];exact hc) (by simp) (by
  rw[aK,Array.size_append];have:(byteCells ⟨m.toArray⟩).size=m.length:=by rw[<-Array.length_toList,hbc,aK]
  omega) (by
  rw[Array.toList_append,hbc,List.drop_zero,List.take_left' rfl])
 rwa [aK]at this
theorem HJ (hk:al P k (re ι) rh 2) (hb:fq P (ι.f 58)):lZ P k:=by
 intro F w l m H hw hl;refine ah hk (args:=[_,_]) (by simp) ?_;unfold re rh kA;simp only[go_sem,zS,↓reduceIte,Za,Zb,Zc,reduceCtorEq,ae];intro c hc;have hc:m.length<=c:=hc;obtain⟨K1,S1⟩:=JN H m (ι.t 19) c hc;generalize Array.push H _=H1 at*;have k1:=K1.size;have hbd:=hw.bound;refine(hb _ _ _ _ _ _ (hw.ai K1 (by simp)) S1 (fun k h hF=>?_) hl).mono ?_
 ·have h:=h.1;have:=hbd k hF;simp only[]at h;omega
 rintro r H2 ⟨rfl,W2,K2⟩;have k2:=K2.size;simp only[go_sem,zS,↓reduceIte,Za,Zb,Zc,reduceCtorEq,ae];refine⟨W2.mono (fun k h=>?_) (fun k h=>?_),K1.any.trans K2⟩
 ·rcases h with h|h
  ·exact .inl h
  ·exact .inr ⟨by omega,h.2⟩
 ·rcases h with h|h
  ·have:=hbd k h;omega
  ·exact h.2
def we (P:Program) (k:FuncId):Prop:=∀(F:Nat->Prop) (w:Nat) (l:List UInt8) (H:Hp),wS F H w l->l.length<=100000000→
 an P k #[.pointer (some ⟨w,0,none⟩)] H fun r H'=>bq H' r (w8 l)/\(∀k,ax r k->H.size<=k)/\af (fun _=>False) H H'
theorem JO (hk:al P k (HE ι) HF 1) (hc:jr P (ι.f 51)):we P k:=by
 intro F w l H hw hl;refine ah hk (args:=[_]) (by simp) ?_;unfold HE HF kA kB kC kD kU kV kY kZ;obtain⟨v,hB,hO,hn,hFw,hFo,hFs⟩:=hw;simp only[go_sem,zS,↓reduceIte,Za,Zb,Zc,reduceCtorEq,ae,hB.cell];refine(hc _ _ _ hO.sl hl).mono ?_;rintro r H1 ⟨O1,o1,K1⟩;simp only[go_sem,zS,↓reduceIte,Za,Zb,Zc,reduceCtorEq,ae];exact⟨O1,o1,K1⟩
def js (P:Program) (k:FuncId):Prop:=∀(l:List UInt8) (v:Value) (H:Hp),aO H v (w8 l)->l.length<=80000000->an P k #[v] H fun r H'=>bq H' r (w8 (dw l))/\(∀k,ax r k->H.size<=k)/\af (fun _=>False) H H'
theorem Q1 (hk:al P k (lX ι) lY 1) (hp:jY P (ι.f 61)):js P k:=by
 intro l v H hv hl;refine ah hk (args:=[_]) (by simp) ?_;unfold lX lY kA kB kC kL kU kY kZ;have w6:IntKind.u64.wrap (l.length:Int)=(l.length:Int):=by rw[IntKind.wrap_u64];omega
 have:=aP l.length (by omega);simp only[go_sem,zS,↓reduceIte,Za,Zb,Zc,reduceCtorEq,ae,hv.aq,hv.len,aK,w6];refine(hp _ _ (by omega)).mono ?_;rintro r1 H1 ⟨O1,o1,K1⟩;have k1:=K1.size;simp only[go_sem,zS,↓reduceIte,Za,Zb,Zc,reduceCtorEq,ae];refine jJ H.size O1 o1 k1 (hv.ai K1 (by simp)) rfl (by omega) fun v2 H2 O2 o2 K2=>?_;simp only[go_sem,zS,↓reduceIte,Za,Zb,Zc,reduceCtorEq,ae];exact⟨O2,o2,K1.gV K2 (Nat.le_refl _)⟩
end Go.Mg
namespace Go.Mg
open Go Go.RowKit
def Bi (ι:aG):S:=
 kY [kC 2 (.pointer .none)] (kY [kA 3 0,.e (.t 4) (.call (ι.f 51) [.t 3]),kU 5 (.m (.bld #[kZ,.int .i64 0] [(0,(1,.t 4))])),.e (.t 6) (.box (ι.t 107) (.t 5)),kB 2 6] .ret)
def Bj:List RV:=[.t 2]
def wg (ι:aG):S:=
 kY [kC 4 (.int .i64 0)] (.seq (kY [kA 7 0,.e (.t 8) (.call (ι.f 109) [.t 7]),kU 9 (.not (.t 8)),kF 10 9,kS 11 10 false 0,kS 12 10 false 1,kT 13 10 false (.cm .lss .i64 (.t 12) (.c (.int .i64 0))),.ge (.t 14) (.t 10) false (.call (ι.f 110) [.t 11,.t 13,.c (.int .i64 1)]),kT 15 10 false (.not (.t 14)),kV 16 (.pick (.t 10) (.c (.bool true)) (.t 15))] (.ite (.v 16) (kY [kC 4 (.int .i64 0)] .ret) .skip)) (kY [kA 18 0,.e (.t 19) (.call (ι.f 111) [.t 18]),kF 17 19,kQ 20 17 0,kQ 21 17 1,kB 5 20,kB 6 21] (.seq (kY [kA 22 0,kA 23 6,kU 24 (.cm .eql .i64 (.t 23) (.c (.int .i64 0))),.e (.t 25) (.call (ι.f 110) [.t 22,.t 24,.c (.int .i64 6)]),kU 26 (.not (.t 25)),kF 27 26,kS 28 27 false 0,kS 29 27 false 5,kS 30 27 false 1,kT 31 27 false (.ii .u64 (.t 30)),kT 32 27 false (.cm .gtr .u64 (.t 29) (.t 31)),.ge (.t 33) (.t 27) false (.call (ι.f 110) [.t 28,.t 32,.c (.int .i64 3)]),kT 34 27 false (.not (.t 33)),kV 35 (.pick (.t 27) (.c (.bool true)) (.t 34))] (.ite (.v 35) (kY [kC 4 (.int .i64 0)] .ret) .skip)) (kY [kA 36 0,kA 37 6,.e (.t 38) (.call (ι.f 112) [.t 36,.t 37])] (kY [kA 39 5,kU 40 (.ii .i64 (.t 39)),kB 4 40] .ret)))))
def wh:List RV:=[.t 4]
def ri (ι:aG):S:=
 kY [kC 4 (.string ⟨#[]⟩)] (kY [kA 5 0,kA 6 1,.e (.t 7) (.call (ι.f 114) [.t 5,.t 6]),kU 8 (.m (.b2s (.t 7))),kB 4 8] .ret)
def rj:List RV:=[.t 4]
def HK (ι:aG):S:=
 kY [kC 2 (.int .i64 0)] (.seq (kY [kA 3 0,.e (.t 4) (.call (ι.f 109) [.t 3]),kF 5 4,kS 6 5 true 0,kT 7 5 true (.nil (.t 6)),kT 8 5 true (.fa 0 (.t 7)),kT 9 5 true (.ld (.t 8)),kT 10 5 true (.m (.lenl (.t 9))),kT 11 5 true (.cm .gtr .i64 (.t 10) (.c (.int .i64 0))),kV 12 (.pick (.t 5) (.t 11) (.c (.bool false)))] (.ite (.v 12) (kY [kC 2 (.int .i64 6)] .ret) .skip)) (kY [kA 13 0,.e (.t 14) (.call (ι.f 116) [.t 13]),kB 2 14] .ret))
def HL:List RV:=[.t 2]
def Q2 (ι:aG):S:=
 kY [kC 2 (.bool false)] (kY [kA 3 0,kU 4 (.m (.eqn .ptr true (.t 3))),kF 5 4,kS 6 5 true 0,kT 7 5 true (.nil (.t 6)),kT 8 5 true (.fa 1 (.t 7)),kT 9 5 true (.ld (.t 8)),kT 10 5 true (.cm .eql .i64 (.t 9) (.c (.int .i64 0))),kJ 11 5 10,kB 2 11] .ret)
def Q3:List RV:=[.t 2]
def rk (ι:aG):S:=
 kY [kC 6 (.bool false)] (.seq (kY [kV 7 (.mv (.v 1))] (.ite (.v 7) (.reg [kA 8 0,kA 9 2,.e (.t 10) (.call (ι.f 118) [.t 8,.t 9])]) .skip)) (kY [kA 11 1,kU 12 (.not (.t 11)),kB 6 12] .ret))
def rp:List RV:=[.t 6]
def Bk (ι:aG):S:=
 kY [kC 2 (.int .u64 0),kC 3 (.int .i64 0)] (kY [kC 4 (.int .u64 0)] (.seq (kY [kA 7 0,kU 8 (.nil (.t 7)),kU 9 (.fa 0 (.t 8)),kV 10 (.ld (.t 9)),kO 11 10,kC 12 (.int .i64 0)] (.blk 0 (.loop (kY [kH 13 12 11] (.seq (.ite (.v 13) .skip (.exit 0)) (.seq (.blk 1 (kY [kA 14 12,kK 15 1 10 12,kD 16 15,kB 5 14,kB 6 16] (.seq (kY [kA 17 5,kU 18 (.cm .eql .i64 (.t 17) (.c (.int .i64 0))),kF 19 18,kS 20 19 true 6,kT 21 19 true (.cm .eql .u8 (.t 20) (.c (.int .u8 128))),kJ 22 19 21,kF 23 22,kS 24 23 false 4,kT 25 23 false (.cm .gtr .u64 (.t 24) (.c (.int .u64 144115188075855871))),kV 26 (.pick (.t 23) (.c (.bool true)) (.t 25))] (.ite (.v 26) (kY [kC 2 (.int .u64 0),kC 3 (.int .i64 0)] .ret) .skip)) (kY [kA 27 4,kU 28 (.sh .shl .u64 (.t 27) (.c (.int .u64 7))),kA 29 6,kU 30 (.bt .and .u8 (.t 29) (.c (.int .u8 127))),kU 31 (.ii .u64 (.t 30)),kU 32 (.bt .or .u64 (.t 28) (.t 31)),kB 4 32] (kY [kA 33 6,kV 34 (.cm .lss .u8 (.t 33) (.c (.int .u8 128)))] (.ite (.v 34) (kY [kA 35 4,kA 36 5,kU 37 (.ar .add .i64 (.t 36) (.c (.int .i64 1))),kB 2 35,kB 3 37] .ret) .skip)))))) (.reg [ke 38 12,kB 12 38]))))))) (kY [kC 2 (.int .u64 0),kC 3 (.int .i64 0)] .ret)))
def Bo:List RV:=[.t 2,.t 3]
def Bq (ι:aG):S:=
 kY [kC 4 (kZ)] (kY [kA 6 0,kU 7 (.nil (.t 6)),kU 8 (.fa 0 (.t 7)),kD 9 8,kA 10 1,kU 11 (.m (.sls 1 (.t 9) .none (.some (.t 10)))),.e (.t 12) (.call (ι.f 51) [.t 11]),kB 5 12] (kY [kA 13 0,kA 14 0,kU 15 (.nil (.t 14)),kU 16 (.fa 0 (.t 15)),kD 17 16,kA 18 1,kU 19 (.m (.sls 1 (.t 17) (.some (.t 18)) .none)),kU 20 (.nil (.t 13)),kU 21 (.fa 0 (.t 20)),.e .no (.st (.t 21) (.t 19))] (kY [kA 22 5,kB 4 22] .ret)))
def Br:List RV:=[.t 4]
def wk (ι:aG):S:=
 kY [kC 4 (kZ)] (.seq (kY [kA 7 0,.e (.t 8) (.call (ι.f 109) [.t 7]),kU 9 (.not (.t 8)),kF 10 9,kS 11 10 false 0,kS 12 10 false 1,kT 13 10 false (.cm .lss .i64 (.t 12) (.c (.int .i64 0))),.ge (.t 14) (.t 10) false (.call (ι.f 110) [.t 11,.t 13,.c (.int .i64 1)]),kT 15 10 false (.not (.t 14)),kV 16 (.pick (.t 10) (.c (.bool true)) (.t 15))] (.ite (.v 16) (kY [kC 4 (kZ)] .ret) .skip)) (kY [kA 18 0,.e (.t 19) (.call (ι.f 111) [.t 18]),kF 17 19,kQ 20 17 0,kQ 21 17 1,kB 5 20,kB 6 21] (.seq (kY [kA 22 0,kA 23 6,kU 24 (.cm .eql .i64 (.t 23) (.c (.int .i64 0))),.e (.t 25) (.call (ι.f 110) [.t 22,.t 24,.c (.int .i64 6)]),kU 26 (.not (.t 25)),kF 27 26,kS 28 27 false 0,kS 29 27 false 5,kS 30 27 false 1,kT 31 27 false (.ii .u64 (.t 30)),kT 32 27 false (.cm .gtr .u64 (.t 29) (.t 31)),.ge (.t 33) (.t 27) false (.call (ι.f 110) [.t 28,.t 32,.c (.int .i64 3)]),kT 34 27 false (.not (.t 33)),kU 35 (.pick (.t 27) (.c (.bool true)) (.t 34)),kF 36 35,kS 37 36 false 0,kS 38 36 false 5,kS 39 36 false 0,kT 40 36 false (.nil (.t 39)),kT 41 36 false (.fa 0 (.t 40)),kT 42 36 false (.ld (.t 41)),kT 43 36 false (.m (.lenl (.t 42))),kS 44 36 false 6,kT 45 36 false (.ar .sub .i64 (.t 43) (.t 44)),kT 46 36 false (.ii .u64 (.t 45)),kT 47 36 false (.cm .gtr .u64 (.t 38) (.t 46)),.ge (.t 48) (.t 36) false (.call (ι.f 110) [.t 37,.t 47,.c (.int .i64 6)]),kT 49 36 false (.not (.t 48)),kV 50 (.pick (.t 36) (.c (.bool true)) (.t 49))] (.ite (.v 50) (kY [kC 4 (kZ)] .ret) .skip)) (kY [kA 51 0,kA 52 6,.e (.t 53) (.call (ι.f 112) [.t 51,.t 52])] (kY [kA 54 0,kA 55 5,kU 56 (.ii .i64 (.t 55)),.e (.t 57) (.call (ι.f 112) [.t 54,.t 56]),kB 4 57] .ret)))))
def wu:List RV:=[.t 4]
def HM (ι:aG):S:=
 kY [kC 2 (.int .i64 0)] (.seq (kY [kA 3 0,kV 4 (.m (.eqn .ptr false (.t 3)))] (.ite (.v 4) (kY [kC 2 (.int .i64 1)] .ret) .skip)) (kY [kA 5 0,kU 6 (.nil (.t 5)),kU 7 (.fa 1 (.t 6)),kD 8 7,kB 2 8] .ret))
def HN:List RV:=[.t 2]
def Bt (ι:aG):S:=
 kY [kA 4 0,.e (.v 5) (.call (ι.f 109) [.t 4])] (.ite (.v 5) (.reg [kA 6 0,kA 7 1,kU 8 (.nil (.t 6)),kU 9 (.fa 1 (.t 8)),.e .no (.st (.t 9) (.t 7))]) .skip)
def Bv:List RV:=[]
def fR:Bool->Nat->List UInt8->Option (Nat×List UInt8)
 |_,_,[]=>none
 |first,v,b::r=>if(first=true/\b.toNat=128)\/v>144115188075855871 then none else if b.toNat<128 then some (v*128+b.toNat % 128,r)else fR false (v*128+b.toNat % 128) r
theorem Mf (first:Bool) (v:Nat) (b:UInt8) (r:List UInt8):fR first v (b::r)=if(first=true/\b.toNat=128)\/v>144115188075855871 then none else if b.toNat<128 then some (v*128+b.toNat % 128,r)else fR false (v*128+b.toNat % 128) r:=by rw[fR]
theorem jt:∀(l:List UInt8) (first:Bool) (u v:Nat) (r:List UInt8),fR first u l=some (v,r)->r.length<l.length/\r=l.drop (l.length -r.length)/\v<18446744073709551616
 |[],_,_,_,_,h=>by simp[fR]at h
 |b::l,first,u,v,r,h=>by
  unfold fR at h
  split at h
  ·cases h
  ·rename_i c1
   split at h
   ·cases h
    refine⟨by simp,?_,by omega⟩;simp
   ·obtain⟨h1,h2,h3⟩:=jt l false _ v r h;refine⟨by simp;omega,?_,h3⟩;have e:(b::l).length -r.length=(l.length -r.length)+1:=by simp;omega
    rw[e,List.drop_succ_cons];exact h2
def hi7 (u:Nat):List UInt8:=(QX u).reverse
theorem XH:hi7 0=[]:=by rw[hi7,Ej];rfl
theorem VM {u:Nat} (h:u≠0):hi7 u=hi7 (u/128)++[UInt8.ofNat (u % 128+128)]:=by
 rw[hi7,tE h,List.reverse_cons];rfl
theorem VN (v:Nat):du v=hi7 (v/128)++[UInt8.ofNat (v % 128)]:=by
 rw[du,le7,List.reverse_cons];rfl
theorem ofNat_lt (n:Nat) (h:n<256):(UInt8.ofNat n).toNat=n:=by rw[UInt8.toNat_ofNat'];omega
theorem VO (u:Nat) (h0:u≠0) (h:u<=144115188075855871) (r:List UInt8):fR true 0 (hi7 u++r)=fR false u r:=by
 induction u using Nat.strongRecOn generalizing r with
 |ind u ih=>
  rw[VM h0,List.append_assoc,List.singleton_append];have e:=ofNat_lt (u % 128+128) (by omega)
  by_cases c:u/128=0
  ·rw[c,XH,List.nil_append,fR,e,if_neg (by omega),if_neg (by omega)]
   congr 1;omega
  ·rw[ih (u/128) (by omega) c (by omega),fR,e,if_neg (by simp;omega),if_neg (by omega)]
   congr 1;omega
theorem wx (v:Nat) (h:v<18446744073709551616) (r:List UInt8):fR true 0 (du v++r)=some (v,r):=by
 rw[VN,List.append_assoc,List.singleton_append];have e:=ofNat_lt (v % 128) (by omega)
 by_cases c:v/128=0
 ·rw[c,XH,List.nil_append,fR,e,if_neg (by omega),if_pos (by omega)]
  congr 2;omega
 ·rw[VO _ c (by omega),fR,e,if_neg (by simp;omega),if_pos (by omega)]
  congr 2;omega
def iK (F:Nat->Prop) (H:Hp) (r:Nat) (l:List UInt8) (e:Int):Prop:=∃v,Bl H r [v,.int .i64 e]/\aO H v (w8 l)/\F r/\(∀k,aT v k->F k/\k≠r)/\∀k,F k->k<H.size
variable {F:Nat->Prop} {H:Hp} {r:Nat} {l:List UInt8} {e:Int} {P:Program} {ι:aG} {k:FuncId}
theorem iK.ai {W:Nat->Prop} {H':Hp} (h:iK F H r l e) (hk:af W H H') (hw:∀k,F k->¬W k):iK F H' r l e:=by
 obtain⟨v,h1,h2,h3,h4,h5⟩:=h;exact⟨v,hk.bl h1 (hw _ h3),h2.ai hk (fun k hb=>hw k (h4 k hb).1),h3,h4,fun k hf=>Nat.lt_of_lt_of_le (h5 k hf) hk.size⟩
theorem iK.bound (h:iK F H r l e):∀k,F k->k<H.size:=let⟨_,_,_,_,_,h6⟩:=h;h6
theorem iK.at (h:iK F H r l e):F r:=let⟨_,_,_,h,_⟩:=h;h
def rq (P:Program) (k:FuncId):Prop:=∀(l:List UInt8) (v:Value) (H:Hp),aO H v (w8 l)->l.length<=100000000->an P k #[v] H fun x H'=>∃b F,x=.pointer (some ⟨b,0,none⟩)/\iK F H' b l 0/\(∀k,F k->H.size<=k)/\af (fun _=>False) H H'
theorem Ek (hk:al P k (Bi ι) Bj 1) (hc:jr P (ι.f 51)):rq P k:=by
 intro l v H hv hl;refine ah hk (args:=[_]) (by simp) ?_;unfold Bi Bj kA kB kC kU kY kZ;simp only[go_sem,zS,↓reduceIte,Za,Zb,Zc,reduceCtorEq,ae,zU,Zf,Zg];refine(hc _ _ _ hv hl).mono ?_;rintro x H1 ⟨O1,o1,K1⟩;obtain⟨a,n,c,rfl⟩:=O1.shape;simp only[go_sem,zS,↓reduceIte,Za,Zb,Zc,reduceCtorEq,ae,zU,Zf,Zg,dV,fG,Value.cells];generalize hA:Array.push H1 _=H2;have KA:af (fun _=>False) H1 H2:=by rw[<-hA];exact(af.refl _ _).push _
 have BA:Bl H2 H1.size [.slice a n c,.int .i64 0]:=by rw[<-hA];exact Bl.cS _ _ _
 have k1:=K1.size;refine⟨by simp,H1.size,fun k=>k=H1.size\/aT (.slice a n c) k,rfl,⟨_,BA,(O1.sl).ai KA (by simp),.inl rfl,fun k hk=>⟨.inr hk,?_⟩,fun k hk=>?_⟩,fun k hk=>?_,K1.trans KA⟩
 ·have:=O1.bj (O1.aT hk);omega
 ·have q:=BA.lt;rcases hk with rfl|hk
  ·exact q
  ·have:=O1.bj (O1.aT hk);omega
 ·rcases hk with rfl|hk
  ·exact k1
  ·exact o1 _ (O1.aT hk)
def gC (P:Program) (k:FuncId):Prop:=∀(F:Nat->Prop) (r:Nat) (l:List UInt8) (e:Int) (H:Hp),iK F H r l e->an P k #[.pointer (some ⟨r,0,none⟩)] H fun x H'=>x=.bool (e==0)/\H'=H
theorem aax (hk:al P k (Q2 ι) Q3 1):gC P k:=by
 intro F r l e H hr;refine ah hk (args:=[_]) (by simp) ?_;unfold Q2 Q3 kA kB kF kC kJ kS kT kU kY;obtain⟨v,B,S,f1,f2,f3⟩:=hr;simp only[go_sem,zS,↓reduceIte,Za,Zb,Zc,reduceCtorEq,ae,zU,Zf,Zg,B.cell]
def xV (P:Program) (k:FuncId):Prop:=∀(F:Nat->Prop) (r:Nat) (l:List UInt8) (e e2:Int) (H:Hp),iK F H r l e->an P k #[.pointer (some ⟨r,0,none⟩),.int .i64 e2] H fun x H'=>x=.tuple #[]/\iK F H' r l (if e=0 then e2 else e)/\af (fun k=>k=r) H H'
theorem Q4 (hk:al P k (Bt ι) Bv 2) (ho:gC P (ι.f 109)):xV P k:=by
 intro F r l e e2 H hr;refine ah hk (args:=[_,_]) (by simp) ?_;unfold Bt Bv kA kU kY;simp only[go_sem,zS,↓reduceIte,Za,Zb,Zc,reduceCtorEq,ae,zU,Zf,Zg];refine(ho _ _ _ _ _ hr).mono ?_;rintro x H1 ⟨rfl,rfl⟩
 by_cases c:e=0
 ·subst c;obtain⟨v,B,S,f1,f2,f3⟩:=hr;simp only[go_sem,zS,↓reduceIte,Za,Zb,Zc,reduceCtorEq,ae,zU,Zf,Zg,B.cell,B.rO];have K:=(af.refl (fun k=>k=r) H1).az (p:=⟨r,0+1,none⟩) (.int .i64 e2) (.inl rfl);refine⟨⟨v,B.az 1 (.int .i64 e2),S.ai K (fun k hk=>(f2 k hk).2),f1,f2,fun k hk=>by rw[dF];exact f3 k hk⟩,K⟩
 ·have e1:(e==0)=false:=by simpa using c
  simp only[go_sem,zS,↓reduceIte,Za,Zb,Zc,reduceCtorEq,ae,zU,Zf,Zg,e1,c];exact⟨hr,af.refl _ _⟩
def ju (P:Program) (k:FuncId):Prop:=∀(F:Nat->Prop) (r:Nat) (l:List UInt8) (e2:Int) (b:Bool) (H:Hp),iK F H r l 0->an P k #[.pointer (some ⟨r,0,none⟩),.bool b,.int .i64 e2] H fun x H'=>x=.bool (!b)/\iK F H' r l (if b=true then e2 else 0)/\af (fun k=>k=r) H H'
theorem HO (hk:al P k (rk ι) rp 3) (hf:xV P (ι.f 118)):ju P k:=by
 intro F r l e2 b H hr;refine ah hk (args:=[_,_,_]) (by simp) ?_;unfold rk rp kA kB kC kU kV kY
 cases b with
 |false=>
  simp only[go_sem,zS,↓reduceIte,Za,Zb,Zc,reduceCtorEq,ae,zU,Zf,Zg];exact⟨hr,af.refl _ _⟩
 |true=>
  simp only[go_sem,zS,↓reduceIte,Za,Zb,Zc,reduceCtorEq,ae,zU,Zf,Zg];refine(hf _ _ _ _ _ _ hr).mono ?_;rintro x H1 ⟨rfl,R1,K1⟩;simp only[go_sem,zS,↓reduceIte,Za,Zb,Zc,reduceCtorEq,ae,zU,Zf,Zg]at R1⊢;exact⟨R1,K1⟩
def El (P:Program) (k:FuncId):Prop:=∀(F:Nat->Prop) (r:Nat) (l:List UInt8) (e:Int) (H:Hp),iK F H r l e->an P k #[.pointer (some ⟨r,0,none⟩)] H fun x H'=>x=.int .i64 e/\H'=H
theorem JP (hk:al P k (HM ι) HN 1):El P k:=by
 intro F r l e H hr;refine ah hk (args:=[_]) (by simp) ?_;unfold HM HN kA kB kC kD kU kV kY;obtain⟨v,B,S,f1,f2,f3⟩:=hr;simp only[go_sem,zS,↓reduceIte,Za,Zb,Zc,reduceCtorEq,ae,zU,Zf,Zg,B.cell]
def pL (s:List UInt8×Int):Int:=if s.2=0/\0<s.1.length then 6 else s.2
def wy (P:Program) (k:FuncId):Prop:=∀(F:Nat->Prop) (r:Nat) (l:List UInt8) (e:Int) (H:Hp),iK F H r l e->an P k #[.pointer (some ⟨r,0,none⟩)] H fun x H'=>x=.int .i64 (pL (l,e))/\H'=H
theorem JQ (hk:al P k (HK ι) HL 1) (ho:gC P (ι.f 109)) (her:El P (ι.f 116)):wy P k:=by
 intro F r l e H hr;refine ah hk (args:=[_]) (by simp) ?_;unfold HK HL kA kB kF kC kS kT kV kY;simp only[go_sem,zS,↓reduceIte,Za,Zb,Zc,reduceCtorEq,ae,zU,Zf,Zg];refine(ho _ _ _ _ _ hr).mono ?_;rintro x H1 ⟨rfl,rfl⟩;have cZ:=hr;obtain⟨v,B,S,f1,f2,f3⟩:=cZ
 by_cases c:e=0
 ·subst c
  by_cases c2:(l.length:Int)>0
  ·have:pL (l,0)=6:=by unfold pL;rw[if_pos ⟨rfl,by simpa using c2⟩]
   simp only[go_sem,zS,↓reduceIte,Za,Zb,Zc,reduceCtorEq,ae,zU,Zf,Zg,B.cell,S.aq,S.len,aK,c2,this]
  ·have:pL (l,0)=0:=by unfold pL;rw[if_neg (fun h=>by have h2:0<l.length:=h.2;omega)]
   simp only[go_sem,zS,↓reduceIte,Za,Zb,Zc,reduceCtorEq,ae,zU,Zf,Zg,B.cell,S.aq,S.len,aK,c2,this];refine(her _ _ _ _ _ hr).mono ?_;rintro x H1 ⟨rfl,rfl⟩;simp only[go_sem,zS,↓reduceIte,Za,Zb,Zc,reduceCtorEq,ae,zU,Zf,Zg]
 ·have e1:(e==0)=false:=by simpa using c
  have:pL (l,e)=e:=by unfold pL;rw[if_neg (by simp[c])]
  simp only[go_sem,zS,↓reduceIte,Za,Zb,Zc,reduceCtorEq,ae,zU,Zf,Zg,e1,this];refine(her _ _ _ _ _ hr).mono ?_;rintro x H1 ⟨rfl,rfl⟩;simp only[go_sem,zS,↓reduceIte,Za,Zb,Zc,reduceCtorEq,ae,zU,Zf,Zg]
def pM (l:List UInt8):Nat×Nat:=match fR true 0 l with|some (v,r)=>(v,l.length -r.length)|none=>(0,0)
theorem VP (b:UInt8):bits .and .u8 (b.toNat:Int) 127=((b.toNat % 128:Nat):Int):=by
 have:∀m:Fin 256,bits .and .u8 ((m.val:Nat):Int) 127=((m.val % 128:Nat):Int):=by decide+kernel
 exact this ⟨b.toNat,b.toNat_lt⟩
theorem or7 (a b:Nat) (hb:b<128) (h:a*128+b<18446744073709551616):bits .or .u64 ((a*128:Nat):Int) (b:Int)=((a*128+b:Nat):Int):=by
 have e1:((a*128:Nat):Int)=((UInt64.ofNat (a*128)).toNat:Int):=by rw[UInt64.toNat_ofNat'];omega
 have e2:(b:Int)=((UInt64.ofNat b).toNat:Int):=by rw[UInt64.toNat_ofNat'];omega
 rw[e1,e2,sQ,UInt64.toNat_or,UInt64.toNat_ofNat',UInt64.toNat_ofNat',Nat.mod_eq_of_lt (by omega),Nat.mod_eq_of_lt (by omega)];have e3:a*128=a<<<7:=by rw[Nat.shiftLeft_eq]
 rw[e3,<-Nat.shiftLeft_add_eq_or_of_lt (show b<2^7 from hb)]
def jv (P:Program) (k:FuncId):Prop:=∀(F:Nat->Prop) (r:Nat) (l:List UInt8) (e:Int) (H:Hp),iK F H r l e->l.length<=100000000->an P k #[.pointer (some ⟨r,0,none⟩)] H fun x H'=>x=.tuple #[.int .u64 (pM l).1,.int .i64 (pM l).2]/\H'=H
theorem Q5 (hk:al P k (Bk ι) Bo 1):jv P k:=by
 intro F r l e H hr hl;refine ah hk (args:=[_]) (by simp) ?_;unfold Bk Bo kA kB kF kC kD ke kH kK kJ kO kS kT kU kV kY;obtain⟨v,B,S,f1,f2,f3⟩:=hr;simp only[go_sem,zS,↓reduceIte,Za,Zb,Zc,reduceCtorEq,ae,zU,Zf,Zg,B.cell,S.aq,S.len,aK];refine aS [13,5,6,26,2,3,4,34,12] rfl (fun n f H'=>∃i u:Nat,i<=l.length/\n=l.length -i/\f 12=.int .i64 i/\f 4=.int .u64 u/\u<18446744073709551616/\H'=H/\fR true 0 l=fR (i==0) u (l.drop i)) l.length
  ⟨0,0,by omega,by omega,rfl,rfl,by omega,rfl,rfl⟩ ?_
 rintro n g H' ⟨i,u,hi,rfl,Bw,xz,hu,rfl,hd⟩;simp only[go_sem,zS,↓reduceIte,Za,Zb,Zc,reduceCtorEq,ae,zU,Zf,Zg]at Bw xz;simp only[go_sem,zS,↓reduceIte,Za,Zb,Zc,reduceCtorEq,ae,zU,Zf,Zg,Bw,xz];refine aL (fun hlt=>?_) (fun jN=>?_)
 ·have mU:i<l.length:=by omega
  obtain⟨bV,oV,cV,rfl,-,-⟩:=S.cells (by intro e;have h:=congrArg List.length e;rw[aK,List.length_nil]at h;omega);have hcell:=S.oC (i:=i) (by rw[aK];omega);rw[jH _ _ mU]at hcell;have e1:l.drop i=l.getD i 0::l.drop (i+1):=by
   rw[List.drop_eq_getElem_cons mU];simp[mU]
  rw[e1]at hd;generalize l.getD i 0=b at*;have hb:=b.toNat_lt;have a1:=VP b;have w1:IntKind.u64.wrap ((b.toNat % 128:Nat):Int)=((b.toNat % 128:Nat):Int):=by rw[IntKind.wrap_u64];omega
  have i0:((i:Int)==0)=(i==0):=by
   by_cases h:i=0
   ·subst h;rfl
   ·rw[beq_eq_false_iff_ne.2 (by omega:(i:Int)≠0),beq_eq_false_iff_ne.2 h]
  have b0:((b.toNat:Int)==128)=(b.toNat==128):=by
   by_cases h:b.toNat=128
   ·rw[h];rfl
   ·rw[beq_eq_false_iff_ne.2 (by omega:(b.toNat:Int)≠128),beq_eq_false_iff_ne.2 h]
  rw[Mf]at hd
  by_cases c1:((i==0)=true/\b.toNat=128)
  ·obtain⟨h1,h2⟩:=c1;rw[if_pos (.inl ⟨h1,h2⟩)]at hd;have:pM l=(0,0):=by unfold pM;rw[hd]
   have h3:(b.toNat==128)=true:=by simpa using h2
   simp only[go_sem,zS,↓reduceIte,Za,Zb,Zc,reduceCtorEq,ae,zU,Zf,Zg,Bw,xz,hcell,ak,aK,i0,h1,b0,h3,this];exact⟨by omega,by omega⟩
  by_cases c2:u>144115188075855871
  ·rw[if_pos (.inr c2)]at hd;have:pM l=(0,0):=by unfold pM;rw[hd]
   have c3:(u:Int)>144115188075855871:=by omega
   by_cases h1:(i==0)=true
   ·have h3:(b.toNat==128)=false:=by simpa using fun e=>c1 ⟨h1,e⟩
    simp only[go_sem,zS,↓reduceIte,Za,Zb,Zc,reduceCtorEq,ae,zU,Zf,Zg,Bw,xz,hcell,ak,aK,i0,h1,b0,h3,c3,this];exact⟨by omega,by omega⟩
   ·have h1:(i==0)=false:=by simpa using h1
    simp only[go_sem,zS,↓reduceIte,Za,Zb,Zc,reduceCtorEq,ae,zU,Zf,Zg,Bw,xz,hcell,ak,aK,i0,h1,c3,this];exact⟨by omega,by omega⟩
  rw[if_neg (by rintro(h|h);exact c1 h;exact c2 h)]at hd;have c3:¬(u:Int)>144115188075855871:=by omega
  have sh:IntKind.u64.wrap ((u:Int)*2^7)=((u*128:Nat):Int):=by
   have:(2^7:Int)=128:=by decide
   rw[this,IntKind.wrap_u64];omega
  have o1:=or7 u (b.toNat % 128) (by omega) (by omega);have wi:IntKind.i64.wrap ((i:Int)+1)=((i+1:Nat):Int):=IntWalk.i64_in _ ⟨by omega,by omega⟩;have hs:(i+1==0)=false:=rfl
  by_cases c4:b.toNat<128
  ·rw[if_pos c4]at hd;have:pM l=(u*128+b.toNat % 128,i+1):=by
    unfold pM;rw[hd];have:(l.drop (i+1)).length=l.length -(i+1):=List.length_drop;simp only[this]
    congr 1;omega
   have c5:(b.toNat:Int)<128:=by omega
   by_cases h1:(i==0)=true
   ·have h3:(b.toNat==128)=false:=by simpa using fun e=>c1 ⟨h1,e⟩
    simp only[go_sem,zS,↓reduceIte,Za,Zb,Zc,reduceCtorEq,ae,zU,Zf,Zg,Bw,xz,hcell,ak,aK,i0,h1,b0,h3,c3,this,a1,w1,sh,o1,c5,wi];exact⟨⟨by omega,by omega⟩,by decide⟩
   ·have h1:(i==0)=false:=by simpa using h1
    simp only[go_sem,zS,↓reduceIte,Za,Zb,Zc,reduceCtorEq,ae,zU,Zf,Zg,Bw,xz,hcell,ak,aK,i0,h1,c3,this,a1,w1,sh,o1,c5,wi];exact⟨⟨by omega,by omega⟩,by decide⟩
  ·rw[if_neg c4]at hd;have c5:¬(b.toNat:Int)<128:=by omega
   by_cases h1:(i==0)=true
   ·have h3:(b.toNat==128)=false:=by simpa using fun e=>c1 ⟨h1,e⟩
    simp only[go_sem,zS,↓reduceIte,Za,Zb,Zc,reduceCtorEq,ae,zU,Zf,Zg,Bw,xz,hcell,ak,aK,i0,h1,b0,h3,c3,a1,w1,sh,o1,c5,wi];exact⟨⟨by omega,by omega⟩,by decide,l.length -(i+1),by omega,i+1,_,by omega,rfl,rfl,rfl,by omega,by rw[hs];exact hd⟩
   ·have h1:(i==0)=false:=by simpa using h1
    simp only[go_sem,zS,↓reduceIte,Za,Zb,Zc,reduceCtorEq,ae,zU,Zf,Zg,Bw,xz,hcell,ak,aK,i0,h1,c3,a1,w1,sh,o1,c5,wi];exact⟨⟨by omega,by omega⟩,by decide,l.length -(i+1),by omega,i+1,_,by omega,rfl,rfl,rfl,by omega,by rw[hs];exact hd⟩
 ·have mU:i=l.length:=by omega
  subst mU;rw[List.drop_length,fR]at hd;have:pM l=(0,0):=by unfold pM;rw[hd]
  simp only[go_sem,zS,↓reduceIte,Za,Zb,Zc,reduceCtorEq,ae,zU,Zf,Zg,this]
theorem ru {v:Nat} {r:List UInt8} (h:fR true 0 l=some (v,r)):pM l=(v,l.length -r.length)/\r.length<l.length/\l.drop (l.length -r.length)=r/\v<18446744073709551616:=by
 obtain⟨h1,h2,h3⟩:=jt l true 0 v r h;exact⟨by unfold pM;rw[h],h1,h2.symm,h3⟩
theorem ry (h:fR true 0 l=none):pM l=(0,0):=by unfold pM;rw[h]
def jw (P:Program) (k:FuncId):Prop:=∀(F:Nat->Prop) (r:Nat) (l:List UInt8) (e:Int) (n:Nat) (H:Hp),iK F H r l e->n<=l.length->l.length<=100000000->an P k #[.pointer (some ⟨r,0,none⟩),.int .i64 n] H fun x H'=>
 bq H' x (w8 (l.take n))/\(∀k,ax x k->H.size<=k)/\iK F H' r (l.drop n) e/\af (fun k=>k=r) H H'
theorem Q6 (hk:al P k (Bq ι) Br 2) (hc:jr P (ι.f 51)):jw P k:=by
 intro F r l e n H hr hn hl;refine ah hk (args:=[_,_]) (by simp) ?_;unfold Bq Br kA kB kC kD kU kY kZ;obtain⟨v,B,S,f1,f2,f3⟩:=hr;have MW:=S.cap;rw[aK]at MW;simp only[go_sem,zS,↓reduceIte,Za,Zb,Zc,reduceCtorEq,ae,zU,Zf,Zg,B.cell,S.aq,S.len,aK];refine And.intro ⟨by omega,by omega⟩ ?_;have ST:=S.take (n:=n) (by rw[aK];exact hn);rw[SE]at ST;refine(hc _ _ _ ST (by simp;omega)).mono ?_;rintro x H1 ⟨O1,o1,K1⟩;have B1:=K1.bl B (by simp);have S1:=S.ai K1 (by simp);have SD:=S1.drop (n:=n) (by rw[aK];exact hn);rw[SF]at SD;simp only[go_sem,zS,↓reduceIte,Za,Zb,Zc,reduceCtorEq,ae,zU,Zf,Zg,B1.cell,S1.aq,S1.len,aK,B1.rO];obtain⟨a,m,c,hsl⟩:∃a m c,wL v 1 (some (n:Int)) none=.slice a m c:=by
  obtain⟨a,c,h,-⟩:=SD.mk;exact⟨_,_,_,h⟩
 have k1:=K1.size;have hrl:=B.lt;have KS:=(af.refl (fun k=>k=r) H1).az (p:=⟨r,0,none⟩) (wL v 1 (some (n:Int)) none) (.inl rfl);have BS:=B1.az 0 (wL v 1 (some (n:Int)) none);rw[hsl]at KS BS SD⊢;refine⟨⟨by omega,by omega⟩,rfl,O1.ai KS (fun k h e=>by have:=o1 k h;omega),o1,⟨_,BS,SD.ai KS (fun k hk=>?_),f1,fun k hk=>?_,fun k hk=>?_⟩,K1.any.trans KS⟩
 ·exact(f2 k (CP (z:=1) (n:=n) (by rw[hsl];exact hk))).2
 ·exact f2 k (CP (z:=1) (n:=n) (by rw[hsl];exact hk))
 ·rw[dF];have:=f3 k hk;omega
def bF (most:Nat) (s:List UInt8×Int):Nat×(List UInt8×Int):=
 if s.2≠0 then(0,s)else match fR true 0 s.1 with|none=>(0,(s.1,6))|some (v,r)=>if v>most then(0,(s.1,3))else(v,(r,0))
def bB (most:Nat) (s:List UInt8×Int):List UInt8×(List UInt8×Int):=
 if s.2≠0 then([],s)else match fR true 0 s.1 with|none=>([],(s.1,6))|some (v,r)=>if v>most then([],(s.1,3))else if v>r.length then([],(s.1,6))else(r.take v,(r.drop v,0))
def nM (P:Program) (k:FuncId):Prop:=∀(F:Nat->Prop) (r:Nat) (s:List UInt8×Int) (most:Nat) (H:Hp),iK F H r s.1 s.2->s.1.length<=100000000->most<=1000000000->an P k #[.pointer (some ⟨r,0,none⟩),.int .i64 most] H fun x H'=>
 x=.int .i64 (bF most s).1/\iK F H' r (bF most s).2.1 (bF most s).2.2/\af (fun k=>k=r) H H'
theorem xW (hk:al P k (wg ι) wh 2) (ho:gC P (ι.f 109)) (hrf:ju P (ι.f 110)) (hn:jv P (ι.f 111)) (ht:jw P (ι.f 112)):nM P k:=by
 rintro F r ⟨l,e⟩ most H hr hl hm;refine ah hk (args:=[_,_]) (by simp) ?_;unfold wg wh kA kB kF kC kQ kS kT kU kV kY;simp only at hr hl;simp only[go_sem,zS,↓reduceIte,Za,Zb,Zc,reduceCtorEq,ae,zU,Zf,Zg];refine(ho _ _ _ _ _ hr).mono ?_;rintro x H1 ⟨rfl,rfl⟩
 by_cases c:e=0
 case neg=>
  have e1:(e==0)=false:=by simpa using c
  have:bF most (l,e)=(0,(l,e)):=by unfold bF;rw[if_pos (by simpa using c)]
  simp only[go_sem,zS,↓reduceIte,Za,Zb,Zc,reduceCtorEq,ae,zU,Zf,Zg,e1,this];exact⟨hr,af.refl _ _⟩
 subst c;have WR:¬(most:Int)<0:=by omega
 simp only[go_sem,zS,↓reduceIte,Za,Zb,Zc,reduceCtorEq,ae,zU,Zf,Zg,WR];refine(hrf _ _ _ _ _ _ hr).mono ?_;rintro x H2 ⟨rfl,R2,K2⟩;simp only[Bool.false_eq_true,if_false]at R2;simp only[go_sem,zS,↓reduceIte,Za,Zb,Zc,reduceCtorEq,ae,zU,Zf,Zg];refine(hn _ _ _ _ _ R2 hl).mono ?_;rintro x H2' ⟨rfl,rfl⟩;have wm:IntKind.u64.wrap (most:Int)=(most:Int):=by rw[IntKind.wrap_u64];omega
 cases hd:fR true 0 l with
 |none=>
  have:bF most (l,0)=(0,(l,6)):=by unfold bF;rw[if_neg (by simp),hd]
  rw[ry hd,this];simp only[go_sem,zS,↓reduceIte,Za,Zb,Zc,reduceCtorEq,ae,zU,Zf,Zg];refine(hrf _ _ _ _ _ _ R2).mono ?_;rintro x H3 ⟨rfl,R3,K3⟩;simp only[go_sem,zS,↓reduceIte,Za,Zb,Zc,reduceCtorEq,ae,zU,Zf,Zg]at R3;simp only[go_sem,zS,↓reduceIte,Za,Zb,Zc,reduceCtorEq,ae,zU,Zf,Zg];exact⟨R3,K2.trans K3⟩
 |some p=>
  obtain⟨v,q⟩:=p;obtain⟨h1,h2,h3,h4⟩:=ru hd;rw[h1];have hq:(((l.length -q.length:Nat):Int)==0)=false:=by simp;omega
  simp only[go_sem,zS,↓reduceIte,Za,Zb,Zc,reduceCtorEq,ae,zU,Zf,Zg,hq];refine(hrf _ _ _ _ _ _ R2).mono ?_;rintro x H3 ⟨rfl,R3,K3⟩;simp only[go_sem,zS,↓reduceIte,Za,Zb,Zc,reduceCtorEq,ae,zU,Zf,Zg]at R3;have hr0:bF most (l,0)=if v>most then(0,(l,3))else(v,(q,0)):=by unfold bF;rw[if_neg (by simp),hd]
  by_cases cv:v>most
  ·have Aq:(v:Int)>(most:Int):=by omega
   rw[hr0,if_pos cv];simp only[go_sem,zS,↓reduceIte,Za,Zb,Zc,reduceCtorEq,ae,zU,Zf,Zg,wm,Aq];refine(hrf _ _ _ _ _ _ R3).mono ?_;rintro x H4 ⟨rfl,R4,K4⟩;simp only[go_sem,zS,↓reduceIte,Za,Zb,Zc,reduceCtorEq,ae,zU,Zf,Zg]at R4;simp only[go_sem,zS,↓reduceIte,Za,Zb,Zc,reduceCtorEq,ae,zU,Zf,Zg];exact⟨R4,(K2.trans K3).trans K4⟩
  ·have Aq:¬(v:Int)>(most:Int):=by omega
   have wv:IntKind.i64.wrap (v:Int)=(v:Int):=IntWalk.i64_in _ ⟨by omega,by omega⟩;rw[hr0,if_neg cv];simp only[go_sem,zS,↓reduceIte,Za,Zb,Zc,reduceCtorEq,ae,zU,Zf,Zg,wm,Aq];refine(hrf _ _ _ _ _ _ R3).mono ?_;rintro x H4 ⟨rfl,R4,K4⟩;simp only[go_sem,zS,↓reduceIte,Za,Zb,Zc,reduceCtorEq,ae,zU,Zf,Zg]at R4;simp only[go_sem,zS,↓reduceIte,Za,Zb,Zc,reduceCtorEq,ae,zU,Zf,Zg];refine(ht _ _ _ _ _ _ R4 (by omega) hl).mono ?_;rintro x H5 ⟨O5,o5,R5,K5⟩;rw[h3]at R5;simp only[go_sem,zS,↓reduceIte,Za,Zb,Zc,reduceCtorEq,ae,zU,Zf,Zg,wv];exact⟨R5,((K2.trans K3).trans K4).trans K5⟩
def l8 (P:Program) (k:FuncId):Prop:=∀(F:Nat->Prop) (r:Nat) (s:List UInt8×Int) (most:Nat) (H:Hp),iK F H r s.1 s.2->s.1.length<=100000000->most<=1000000000->an P k #[.pointer (some ⟨r,0,none⟩),.int .i64 most] H fun x H'=>
 bq H' x (w8 (bB most s).1)/\(∀k,ax x k->H.size<=k)/\iK F H' r (bB most s).2.1 (bB most s).2.2/\af (fun k=>k=r) H H'
theorem Mh (hk:al P k (wk ι) wu 2) (ho:gC P (ι.f 109)) (hrf:ju P (ι.f 110)) (hn:jv P (ι.f 111)) (ht:jw P (ι.f 112)):l8 P k:=by
 rintro F r ⟨l,e⟩ most H hr hl hm;refine ah hk (args:=[_,_]) (by simp) ?_;unfold wk wu kA kB kF kC kQ kS kT kU kV kY kZ;simp only at hr hl;simp only[go_sem,zS,↓reduceIte,Za,Zb,Zc,reduceCtorEq,ae,zU,Zf,Zg];refine(ho _ _ _ _ _ hr).mono ?_;rintro x H1 ⟨rfl,rfl⟩
 by_cases c:e=0
 case neg=>
  have e1:(e==0)=false:=by simpa using c
  have:bB most (l,e)=([],(l,e)):=by unfold bB;rw[if_pos (by simpa using c)]
  simp only[go_sem,zS,↓reduceIte,Za,Zb,Zc,reduceCtorEq,ae,zU,Zf,Zg,e1,this];exact⟨bq.nil _,fun k h=>h.elim,hr,af.refl _ _⟩
 subst c;have WR:¬(most:Int)<0:=by omega
 simp only[go_sem,zS,↓reduceIte,Za,Zb,Zc,reduceCtorEq,ae,zU,Zf,Zg,WR];refine(hrf _ _ _ _ _ _ hr).mono ?_;rintro x H2 ⟨rfl,R2,K2⟩;simp only[Bool.false_eq_true,if_false]at R2;simp only[go_sem,zS,↓reduceIte,Za,Zb,Zc,reduceCtorEq,ae,zU,Zf,Zg];refine(hn _ _ _ _ _ R2 hl).mono ?_;rintro x H2' ⟨rfl,rfl⟩;have wm:IntKind.u64.wrap (most:Int)=(most:Int):=by rw[IntKind.wrap_u64];omega
 cases hd:fR true 0 l with
 |none=>
  have:bB most (l,0)=([],(l,6)):=by unfold bB;rw[if_neg (by simp),hd]
  rw[ry hd,this];simp only[go_sem,zS,↓reduceIte,Za,Zb,Zc,reduceCtorEq,ae,zU,Zf,Zg];refine(hrf _ _ _ _ _ _ R2).mono ?_;rintro x H3 ⟨rfl,R3,K3⟩;simp only[go_sem,zS,↓reduceIte,Za,Zb,Zc,reduceCtorEq,ae,zU,Zf,Zg]at R3;simp only[go_sem,zS,↓reduceIte,Za,Zb,Zc,reduceCtorEq,ae,zU,Zf,Zg];exact⟨bq.nil _,fun k h=>h.elim,R3,K2.trans K3⟩
 |some p=>
  obtain⟨v,q⟩:=p;obtain⟨h1,h2,h3,h4⟩:=ru hd;rw[h1];have hq:(((l.length -q.length:Nat):Int)==0)=false:=by simp;omega
  simp only[go_sem,zS,↓reduceIte,Za,Zb,Zc,reduceCtorEq,ae,zU,Zf,Zg,hq];refine(hrf _ _ _ _ _ _ R2).mono ?_;rintro x H3 ⟨rfl,R3,K3⟩;simp only[go_sem,zS,↓reduceIte,Za,Zb,Zc,reduceCtorEq,ae,zU,Zf,Zg]at R3;have hr0:bB most (l,0)=if v>most then([],(l,3))else if v>q.length then([],(l,6))else(q.take v,(q.drop v,0)):=by unfold bB;rw[if_neg (by simp),hd]
  by_cases cv:v>most
  ·have Aq:(v:Int)>(most:Int):=by omega
   rw[hr0,if_pos cv];simp only[go_sem,zS,↓reduceIte,Za,Zb,Zc,reduceCtorEq,ae,zU,Zf,Zg,wm,Aq];refine(hrf _ _ _ _ _ _ R3).mono ?_;rintro x H4 ⟨rfl,R4,K4⟩;simp only[go_sem,zS,↓reduceIte,Za,Zb,Zc,reduceCtorEq,ae,zU,Zf,Zg]at R4;simp only[go_sem,zS,↓reduceIte,Za,Zb,Zc,reduceCtorEq,ae,zU,Zf,Zg];exact⟨bq.nil _,fun k h=>h.elim,R4,(K2.trans K3).trans K4⟩
  ·have Aq:¬(v:Int)>(most:Int):=by omega
   have wv:IntKind.i64.wrap (v:Int)=(v:Int):=IntWalk.i64_in _ ⟨by omega,by omega⟩;rw[hr0,if_neg cv];simp only[go_sem,zS,↓reduceIte,Za,Zb,Zc,reduceCtorEq,ae,zU,Zf,Zg,wm,Aq];refine(hrf _ _ _ _ _ _ R3).mono ?_;rintro x H4 ⟨rfl,R4,K4⟩;simp only[go_sem,zS,↓reduceIte,Za,Zb,Zc,reduceCtorEq,ae,zU,Zf,Zg]at R4;have R4':=R4;obtain⟨v4,B4,S4,f41,f42,f43⟩:=R4';have wq:IntKind.u64.wrap (IntKind.i64.wrap ((l.length:Int) -((l.length -q.length:Nat):Int)))=(q.length:Int):=by
    rw[IntWalk.i64_in _ ⟨by omega,by omega⟩,IntKind.wrap_u64];omega
   simp only[go_sem,zS,↓reduceIte,Za,Zb,Zc,reduceCtorEq,ae,zU,Zf,Zg,B4.cell,S4.aq,S4.len,aK,wq];refine(hrf _ _ _ _ _ _ R4).mono ?_;rintro x H5 ⟨rfl,R5,K5⟩;have K5':=((K2.trans K3).trans K4).trans K5
   by_cases cw:v>q.length
   ·have cw':(v:Int)>(q.length:Int):=by omega
    rw[if_pos cw];simp only[go_sem,zS,↓reduceIte,Za,Zb,Zc,reduceCtorEq,ae,zU,Zf,Zg,cw']at R5;simp only[go_sem,zS,↓reduceIte,Za,Zb,Zc,reduceCtorEq,ae,zU,Zf,Zg,cw'];exact⟨bq.nil _,fun k h=>h.elim,R5,K5'⟩
   ·have cw':¬(v:Int)>(q.length:Int):=by omega
    rw[if_neg cw];simp only[go_sem,zS,↓reduceIte,Za,Zb,Zc,reduceCtorEq,ae,zU,Zf,Zg,cw']at R5;simp only[go_sem,zS,↓reduceIte,Za,Zb,Zc,reduceCtorEq,ae,zU,Zf,Zg,cw'];refine(ht _ _ _ _ _ _ R5 (by omega) hl).mono ?_;rintro x H6 ⟨O6,o6,R6,K6⟩;rw[h3]at R6;simp only[go_sem,zS,↓reduceIte,Za,Zb,Zc,reduceCtorEq,ae,zU,Zf,Zg,wv];refine(ht _ _ _ _ _ _ R6 (by omega) (by omega)).mono ?_;rintro x H7 ⟨O7,o7,R7,K7⟩;simp only[go_sem,zS,↓reduceIte,Za,Zb,Zc,reduceCtorEq,ae,zU,Zf,Zg];have k6:=(K5'.trans K6).size;exact⟨O7,fun k h=>by have:=o7 k h;omega,R7,(K5'.trans K6).trans K7⟩
def pN (P:Program) (k:FuncId):Prop:=∀(F:Nat->Prop) (r:Nat) (s:List UInt8×Int) (most:Nat) (H:Hp),iK F H r s.1 s.2->s.1.length<=100000000->most<=1000000000->an P k #[.pointer (some ⟨r,0,none⟩),.int .i64 most] H fun x H'=>
 x=.string ⟨(bB most s).1.toArray⟩/\iK F H' r (bB most s).2.1 (bB most s).2.2/\af (fun k=>k=r) H H'
theorem HP (hk:al P k (ri ι) rj 2) (hb:l8 P (ι.f 114)):pN P k:=by
 rintro F r s most H hr hl hm;refine ah hk (args:=[_,_]) (by simp) ?_;unfold ri rj kA kB kC kU kY;simp only[go_sem,zS,↓reduceIte,Za,Zb,Zc,reduceCtorEq,ae,zU,Zf,Zg];refine(hb _ _ _ _ _ hr hl hm).mono ?_;rintro x H1 ⟨O1,o1,R1,K1⟩;have b1:=O1.sl.bX;simp only[go_sem,zS,↓reduceIte,Za,Zb,Zc,reduceCtorEq,ae,zU,Zf,Zg,b1,toBA_w8];exact⟨oz b1,R1,K1⟩
end Go.Mg
