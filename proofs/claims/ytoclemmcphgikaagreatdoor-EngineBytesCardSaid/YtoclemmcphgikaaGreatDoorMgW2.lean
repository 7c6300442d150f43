/- Lemmas of ours. No conditions. -/
import Derived.Test.YtoclemmcphgikaaGreatDoorMgEl
import Derived.Test.YtoclemmcphgikaaGreatDoorMgKp
open Bool renaming false→ZS,true→ZT
open Go renaming Value→ZR
open Go.IntKind renaming i64→ZY,u64→ZW,u8→ZX
open Go.Value renaming bool→Z5,int→Z8,pointer→Z7,slice→Z6,tuple→ZZ
open Option renaming none→ZU,some→ZV
open And renaming intro→XQ
open Array renaming push→WK,replicate→Yz
open Bool renaming false_eq_true→ZD
open Go.IntKind renaming i64→XI,wrap_u64→Y0,wrap_u8→WT
open Go.IntWalk renaming i64_in→ZN
open List renaming append_assoc→ZA,append_nil→YY,getD_eq_getElem?_getD→ZP,getElem?_set_ne→Yw,length→Y8,length_append→ZK,length_cons→V3,length_nil→Zx,length_reverse→W8,map_cons→Y9,map_nil→YC,nil_append→XG,reverse_cons→V8,singleton_append→Xi,take_set→VI
open Nat renaming lt_of_lt_of_le→Xv,mod_eq_of_lt→YF
open UInt64 renaming ofNat→Y7,toNat_ofNat'→Zm
open UInt8 renaming ofNat→ZG,toNat_ofNat'→YR
open Nat renaming reduceEqDiff→Za,reduceAdd→Zb,reduceMul→Zc
open Int renaming reduceBEq→Zf,reduceBNe→Zg
set_option maxRecDepth 100000
set_option linter.all false
namespace Go.Mg
open Go Go.RowKit
def CP (V:aH):S:=
 kY [kC 2 (kZ)] (.seq (kY [kA 3 0,kV 4 (.m (.eqn .sl ZS (.t 3)))] (.ite (.v 4) (kY [kC 2 (kZ)] .ret) .skip)) (kY [kc 5 (.aX (V.t 19) 1 0 []),kA 6 0,kc 7 (.app ZS (V.t 19) 1 1 #[Z8 ZX 0] (.t 5) (.t 6)),kB 2 7] .ret))
def CQ:List RV:=[.t 2]
def sW (V:aH):S:=
 kY [kA 4 0,kL 5 4,kU 6 (.ar .sub ZY (.t 5) (.c (Z8 ZY 1))),kC 2 (Z8 ZY 0),kB 3 6] (.blk 0 (.loop (.seq (kY [kA 7 2,kA 8 3,kV 9 (.cm .lss ZY (.t 7) (.t 8))] (.ite (.v 9) .skip (.exit 0))) (.seq (.blk 1 (.dr (kW 14 (.mv (.v 0)) (kW 15 (.mv (.v 2)) (kW 16 (.mv (.v 0)) (kW 17 (.mv (.v 3)) (kW 18 (.mv (.v 0)) (kW 19 (.mv (.v 3)) (kW 20 (.is 1 (.t 18) (.t 19)) (kW 22 (.mv (.v 0)) (kW 23 (.mv (.v 2)) (kW 24 (.is 1 (.t 22) (.t 23)) (ka 21 (.rd (.ld (.t 20))) (ka 25 (.rd (.ld (.t 24))) (kW 26 (.is 1 (.t 14) (.t 15)) (kb (.st (.t 26) (.t 21)) (kW 27 (.is 1 (.t 16) (.t 17)) (kb (.st (.t 27) (.t 25)) .done .wnil)) .wnil)) .wnil) (ka 25 (.rd (.ld (.t 24))) (ka 21 (.rd (.ld (.t 20))) (kW 26 (.is 1 (.t 14) (.t 15)) (kb (.st (.t 26) (.t 21)) (kW 27 (.is 1 (.t 16) (.t 17)) (kb (.st (.t 27) (.t 25)) .done .wnil)) .wnil)) .wnil) .wnil)))))))))))))) (.reg [kA 10 2,kU 11 (.ar .add ZY (.t 10) (.c (Z8 ZY 1))),kA 12 3,kU 13 (.ar .sub ZY (.t 12) (.c (Z8 ZY 1))),kB 2 11,kB 3 13])))))
def ta:List RV:=[]
def xx (V:aH):S:=
 kY [kC 2 (kZ)] (kY [kA 4 0,kU 5 (.bt .and ZW (.t 4) (.c (Z8 ZW 127))),kU 6 (.ii ZX (.t 5)),kc 7 (.aX (V.t 19) 1 1 [.t 6]),kB 3 7] (.seq (kY [kA 8 0,kU 9 (.sh .shr ZW (.t 8) (.c (Z8 ZW 7))),kB 0 9] (.blk 0 (.loop (.seq (kY [kA 10 0,kV 11 (.cm .gtr ZW (.t 10) (.c (Z8 ZW 0)))] (.ite (.v 11) .skip (.exit 0))) (.seq (.blk 1 (.reg [kA 14 3,kA 15 0,kU 16 (.bt .and ZW (.t 15) (.c (Z8 ZW 127))),kU 17 (.ii ZX (.t 16)),kU 18 (.bt .or ZX (.t 17) (.c (Z8 ZX 128))),kc 19 (.aX (V.t 19) 1 1 [.t 18]),kc 20 (.app ZS (V.t 19) 1 1 #[Z8 ZX 0] (.t 14) (.t 19)),kB 3 20])) (.reg [kA 12 0,kU 13 (.sh .shr ZW (.t 12) (.c (Z8 ZW 7))),kB 0 13])))))) (kY [kA 21 3,kc 22 (kg (V.f 52) [.t 21])] (kY [kA 23 3,kB 2 23] .ret))))
def xy:List RV:=[.t 2]
def JB (V:aH):S:=
 kY [kC 0 (Z7 .none)] (kY [kU 1 (.m (.bld #[kZ] [])),kc 2 (.box (V.t 54) (.t 1)),kB 0 2] .ret)
def JC:List RV:=[.t 0]
def JD (V:aH):S:=
 kY [kA 4 0,kV 5 (.m (.eqn .ptr ZT (.t 4)))] (.ite (.v 5) (.reg [kA 6 0,kA 7 0,kU 8 (.nil (.t 7)),kU 9 (.fa 0 (.t 8)),kD 10 9,kA 11 1,kc 12 (.app ZS (V.t 19) 1 1 #[Z8 ZX 0] (.t 10) (.t 11)),kU 13 (.nil (.t 6)),kU 14 (.fa 0 (.t 13)),kf (.st (.t 14) (.t 12))]) .skip)
def JE:List RV:=[]
def CR (V:aH):S:=
 .reg [kA 4 0,kA 5 1,kc 6 (kg (V.f 53) [.t 5]),kc 7 (kg (V.f 56) [.t 4,.t 6])]
def CS:List RV:=[]
def xz (V:aH):S:=
 kY [kA 4 0,kA 5 1,kL 6 5,kU 7 (.ii ZW (.t 6)),kc 8 (kg (V.f 57) [.t 4,.t 7])] (.reg [kA 9 0,kA 10 1,kc 11 (kg (V.f 56) [.t 9,.t 10])])
def xA:List RV:=[]
def tf (V:aH):S:=
 .reg [kA 4 0,kA 5 1,kc 6 (.s2b (V.t 19) (.t 5)),kc 7 (kg (V.f 58) [.t 4,.t 6])]
def tg:List RV:=[]
def JF (V:aH):S:=
 kY [kC 2 (kZ)] (.seq (kY [kA 3 0,kV 4 (.m (.eqn .ptr ZS (.t 3)))] (.ite (.v 4) (kY [kC 2 (kZ)] .ret) .skip)) (kY [kA 5 0,kU 6 (.nil (.t 5)),kU 7 (.fa 0 (.t 6)),kD 8 7,kc 9 (kg (V.f 51) [.t 8]),kB 2 9] .ret))
def JG:List RV:=[.t 2]
def JH (V:aH):S:=
 kY [kC 2 (kZ)] (kY [kA 4 0,kU 5 (.dv .rem ZW (.t 4) (.c (Z8 ZW 128))),kU 6 (.ii ZX (.t 5)),kc 7 (.aX (V.t 19) 1 1 [.t 6]),kB 3 7] (.seq (.blk 0 (.loop (.seq (kY [kA 8 0,kV 9 (.cm .geq ZW (.t 8) (.c (Z8 ZW 128)))] (.ite (.v 9) .skip (.exit 0))) (.blk 1 (kY [kA 10 0,kU 11 (.dv .quo ZW (.t 10) (.c (Z8 ZW 128))),kB 0 11] (.reg [kA 12 0,kU 13 (.dv .rem ZW (.t 12) (.c (Z8 ZW 128))),kU 14 (.ii ZX (.t 13)),kU 15 (.ar .add ZX (.t 14) (.c (Z8 ZX 128))),kc 16 (.aX (V.t 19) 1 1 [.t 15]),kA 17 3,kc 18 (.app ZS (V.t 19) 1 1 #[Z8 ZX 0] (.t 16) (.t 17)),kB 3 18])))))) (kY [kA 19 3,kB 2 19] .ret)))
def JI:List RV:=[.t 2]
def mU (V:aH):S:=
 kY [kC 2 (kZ)] (kY [kA 3 0,kL 4 3,kU 5 (.ii ZW (.t 4)),kc 6 (kg (V.f 61) [.t 5]),kA 7 0,kc 8 (.app ZS (V.t 19) 1 1 #[Z8 ZX 0] (.t 6) (.t 7)),kB 2 8] .ret)
def mV:List RV:=[.t 2]
def TL (u:Nat):List UInt8:=if h:u=0 then[]else ZG (u % 128+128)::TL (u/128)
termination_by u
decreasing_by omega
def le7 (v:Nat):List UInt8:=ZG (v % 128)::TL (v/128)
def dB (v:Nat):List UInt8:=(le7 v).reverse
def du (l:List UInt8):List UInt8:=dB l.length++l
def zk:TL 0=[]:=by rw[TL];simp
variable {u i w r:Nat} {P:Program} {V:aH} {k:FuncId} {l x:List UInt8} {F W:Nat->Prop} {H H':Hp} {e:Int}
def uX (h:u≠0):TL u=ZG (u % 128+128)::TL (u/128):=by rw[TL];simp[h]
def Mr:∀(k u:Nat),u<128^k->(TL u).length<=k
 |0,u,h=>by
  have:u=0:=by simpa using h
  subst this;rw[zk];simp
 |k+1,u,h=>by
  by_cases hu:u=0
  ·subst hu;rw[zk];simp
  ·rw[uX hu];have:=Mr k (u/128) (by rw[Nat.pow_succ]at h;omega);simp only[V3];omega
def aS (v:Nat) (h:v<18446744073709551616):(dB v).length<=11:=by
 have:=Mr 10 (v/128) (by omega);simp only[dB,le7,W8,V3];omega
def jU (P:Program) (k:FuncId):Prop:=∀(l:List UInt8) (v:ZR) (H:Hp),aP H v (w8 l)->l.length<=100000000->an P k #[v] H fun r H'=>br H' r (w8 l)/\(∀k,ay r k->H.size<=k)/\af (fun _=>False) H H'
def TM (hk:ak P k (CP V) CQ 1):jU P k:=by
 intro l v H hv hl;refine ah hk (args:=[_]) (by simp) ?_;unfold CP CQ kA kB kC kV kc kY kZ;obtain⟨a,c,rfl,hc⟩:=hv.mk
 cases a with
 |none=>
  have hl0:l=[]:=by
   rcases hv with⟨_,_,_,h⟩|⟨b,o,c',h,e,_⟩
   ·simpa[w8]using h
   ·simp at e
  subst hl0;simp only[go_sem,zS,↓reduceIte,Za,Zb,Zc,reduceCtorEq,ae];exact⟨br.nil _,fun k h=>h.elim,af.refl _ _⟩
 |some p=>
  simp only[go_sem,zS,↓reduceIte,Za,Zb,Zc,reduceCtorEq];refine aG fun H1 b1 e1 z1 B1 K1=>?_;have k1:=K1.size;simp only[go_sem,zS,↓reduceIte,Za,Zb,Zc,reduceCtorEq,ae];refine la H.size (l:=[]) (m:=l) (br.new B1 rfl rfl) (fun k (h:k=b1)=>by omega) (by omega) (hv.ai K1 (by simp)) rfl (by simp;omega) fun v2 H2 O2 o2 K2=>?_;simp only[go_sem,zS,↓reduceIte,Za,Zb,Zc,reduceCtorEq,ae];exact⟨O2,o2,K1.gK K2 (by omega)⟩
def oI (l:List UInt8) (i:Nat) (x:List UInt8):Prop:=x.length=l.length/\∀j,j<l.length->x.getD j 0=if j<i\/l.length<=i+j then l.getD (l.length -1 -j) 0 else l.getD j 0
def oI.zero (l:List UInt8):oI l 0 l:=⟨rfl,fun j hj=>by rw[if_neg (by omega)]⟩
def zl (x:List UInt8) (i j:Nat) (y:UInt8) (h:i<x.length):(x.set i y).getD j 0=if j=i then y else x.getD j 0:=by
 by_cases e:j=i
 ·subst e;rw[if_pos rfl,ZP,List.getElem?_set_self h];rfl
 ·rw[if_neg e,ZP,Yw (Ne.symm e),<-ZP]
def oI.step (h:oI l i x) (hi:2*i+1<l.length):oI l (i+1) ((x.set i (x.getD (l.length -1 -i) 0)).set (l.length -1 -i) (x.getD i 0)):=by
 obtain⟨h1,h2⟩:=h;refine⟨by simp[h1],fun j hj=>?_⟩;have q1:x.getD i 0=l.getD i 0:=by rw[h2 i (by omega),if_neg (by omega)]
 have q2:x.getD (l.length -1 -i) 0=l.getD (l.length -1 -i) 0:=by rw[h2 (l.length -1 -i) (by omega),if_neg (by omega)]
 rw[q1,q2,zl _ _ _ _ (by simp;omega),zl _ _ _ _ (by omega),h2 j hj]
 by_cases e1:j=l.length -1 -i
 ·rw[if_pos e1,if_pos (by omega)];congr 1;omega
 ·rw[if_neg e1]
  by_cases e2:j=i
  ·rw[if_pos e2,if_pos (by omega)];congr 1;omega
  ·rw[if_neg e2]
   by_cases e3:j<i\/l.length<=i+j
   ·rw[if_pos e3,if_pos (by omega)]
   ·rw[if_neg e3,if_neg (by omega)]
def oI.all (h:oI l i x) (hi:l.length<=2*i+1):x=l.reverse:=by
 obtain⟨h1,h2⟩:=h;apply List.ext_getElem (by simp[h1]);intro j g1 g2;have:=h2 j (by omega);have e1:x.getD j 0=x[j]:=by simp[g1]
 have e2:l.reverse[j]=l.getD (l.length -1 -j) 0:=by
  rw[List.getElem_reverse];simp[show l.length -1 -j<l.length by omega]
 rw[<-e1,e2,this]
 split
 ·rfl
 ·congr 1;omega
def Ms (P:Program) (k:FuncId):Prop:=∀(l:List UInt8) (v:ZR) (H:Hp),br H v (w8 l)->l.length<=100000000->an P k #[v] H fun r H'=>r=ZZ #[]/\br H' v (w8 l.reverse)/\af (ay v) H H'
def JJ (hk:ak P k (sW V) ta 1):Ms P k:=by
 intro l v H hv hl;refine ah hk (args:=[_]) (by simp) ?_;unfold sW ta kA kB kC kL kU kV kW ka kb kY;simp(disch:=omega)only[go_sem,zS,↓reduceIte,Za,Zb,Zc,reduceCtorEq,ae,hv.sl.aq,hv.sl.len,aM,ZN];refine aT [9,2,3] rfl (fun n f H'=>∃i x,2*i<=l.length+1/\n=l.length -i/\f 2=Z8 ZY i/\f 3=Z8 ZY ((l.length:Int) -1 -i)/\oI l i x/\br H' v (w8 x)/\af (ay v) H H') l.length
  ⟨0,l,by omega,by omega,rfl,by simp only[go_sem,zS,↓reduceIte,Za,Zb,Zc,reduceCtorEq,ae];simp,oI.zero l,hv,af.refl _ _⟩ ?_
 rintro n g H1 ⟨i,x,hi,rfl,hf2,uL,hR,hO,K1⟩;simp only[go_sem,zS,↓reduceIte,Za,Zb,Zc,reduceCtorEq,ae]at hf2 uL;simp only[go_sem,zS,↓reduceIte,Za,Zb,Zc,reduceCtorEq,ae,hf2,uL];refine aN (fun hlt=>?_) (fun ki=>?_)
 ·have ou:2*i+1<l.length:=by omega
  have hxl:=hR.1;obtain⟨b,c,L,rfl,h1,h2,hB,h3,hg⟩:=hO.some (by intro e;have h:=congrArg Y8 e;rw[aM,Zx]at h;omega);rw[aM]at h1 h3 hg;have ej:((l.length:Int) -1 -i)=((l.length -1 -i:Nat):Int):=by omega
  have gi:L[i]?=ZV (Z8 ZX (x.getD i 0).toNat):=by rw[hg i (by omega),k8 _ _ (by omega)]
  have gj:L[l.length -1 -i]?=ZV (Z8 ZX (x.getD (l.length -1 -i) 0).toNat):=by rw[hg _ (by omega),k8 _ _ (by omega)]
  have B2:=hB.az i (Z8 ZX (x.getD (l.length -1 -i) 0).toNat);have g2:(L.set i (Z8 ZX (x.getD (l.length -1 -i) 0).toNat))[l.length -1 -i]?=ZV (Z8 ZX (x.getD (l.length -1 -i) 0).toNat):=by
   rw[Yw (by omega)];exact gj
  refine aZ (fun k=>k=b) ?_;simp(disch:=omega)only[go_sem,zS,↓reduceIte,Za,Zb,Zc,reduceCtorEq,ae,hf2,uL,ej,hB.cell,hB.tL,gi,gj,B2.cell,B2.tL,g2,al];rw[aM];have B3:=B2.az (l.length -1 -i) (Z8 ZX (x.getD i 0).toNat);have hO2:=rM (i:=i) (v:=Z8 ZX (x.getD (l.length -1 -i) 0).toNat) hB (l:=w8 x) (by rw[aM];exact h1) h2 (by rw[aM];exact h3) (by rw[aM];omega);have hO3:=br.bl (n:=x.length) (c:=c) B3 (l:=w8 ((x.set i (x.getD (l.length -1 -i) 0)).set (l.length -1 -i) (x.getD i 0))) (by simp[aM]) h1 (by simpa using h2) (by rw[VI,VI,h3,vx,vx]);have KA:af (fun k=>k=b) H1 (az H1 ⟨b,i,ZU⟩ (Z8 ZX (x.getD (l.length -1 -i) 0).toNat)):=(af.refl _ _).az _ (.inl rfl);have e1:IntKind.i64.wrap ((i:Int)+1)=((i+1:Nat):Int):=by rw[ZN _ ⟨by omega,by omega⟩];simp
  have e2:IntKind.i64.wrap (((l.length -1 -i:Nat):Int) -1)=(l.length:Int) -1 -((i+1:Nat):Int):=by rw[ZN _ ⟨by omega,by omega⟩];omega
  rw[e1,e2];have fin:∃m,m<l.length -i/\∃i_1 x_1,2*i_1<=l.length+1/\m=l.length -i_1/\Value.int XI ((i+1:Nat):Int)=Value.int XI ↑i_1/\Value.int XI ((l.length:Int) -1 -((i+1:Nat):Int))=Value.int XI (↑l.length -1 -↑i_1)/\oI l i_1 x_1∧
    br (az (az H1 ⟨b,i,ZU⟩ (Z8 ZX (x.getD (l.length -1 -i) 0).toNat)) ⟨b,l.length -1 -i,ZU⟩ (Z8 ZX (x.getD i 0).toNat)) (Z6 (ZV ⟨b,0,ZU⟩) x.length c) (w8 x_1)∧
    af (ay (Z6 (ZV ⟨b,0,ZU⟩) x.length c)) H (az (az H1 ⟨b,i,ZU⟩ (Z8 ZX (x.getD (l.length -1 -i) 0).toNat)) ⟨b,l.length -1 -i,ZU⟩ (Z8 ZX (x.getD i 0).toNat)):=by
   rw[aM]at K1;exact⟨l.length -(i+1),by omega,i+1,_,by omega,rfl,rfl,rfl,hR.step ou,hO3,(K1.az (p:=⟨b,i,ZU⟩) _ (.inl rfl)).az (p:=⟨b,l.length -1 -i,ZU⟩) _ (.inl rfl)⟩
  have KB:=(af.refl (fun k=>k=b) (az H1 ⟨b,i,ZU⟩ (Z8 ZX (x.getD (l.length -1 -i) 0).toNat))).az (p:=⟨b,l.length -1 -i,ZU⟩) (Z8 ZX (x.getD i 0).toNat) (.inl rfl);have K0:af (fun k=>k=b) H1 H1:=af.refl _ _;refine⟨by omega,by omega,⟨K0,K0,by omega,KA,by omega,KB,fin⟩,⟨K0,K0,by omega,KA,by omega,KB,fin⟩⟩
 ·have:=hR.all (by omega);subst this;exact⟨hO,K1⟩
def TN (v:Nat) (h:v<18446744073709551616):bits .and ZW (v:Int) 127=((v % 128:Nat):Int):=by
 have e:(v:Int)=((Y7 v).toNat:Int):=by rw[Zm];omega
 have e2:(127:Int)=((127:UInt64).toNat:Int):=rfl;rw[e,e2,mw,UInt64.toNat_and,Zm];have:(127:UInt64).toNat=2^7 -1:=rfl;rw[this,Nat.and_two_pow_sub_one_eq_mod];omega
def aiS (x:Nat) (h:x<128):bits .or ZX (x:Int) 128=((x+128:Nat):Int):=by
 have:∀m:Fin 128,bits .or ZX ((m.val:Nat):Int) 128=((m.val+128:Nat):Int):=by decide+kernel
 exact this ⟨x,h⟩
def Mu (n:Nat) (h:n<256):(n:Int)=((ZG n).toNat:Int):=by rw[YR];omega
def lD (P:Program) (k:FuncId):Prop:=∀(v:Nat) (H:Hp),v<18446744073709551616->an P k #[Z8 ZW v] H fun r H'=>br H' r (w8 (dB v))/\(∀k,ay r k->H.size<=k)/\af (fun _=>False) H H'
def OF (hk:ak P k (xx V) xy 1) (hr:Ms P (V.f 52)):lD P k:=by
 intro v H hv;refine ah hk (args:=[_]) (by simp) ?_;unfold xx xy kA kB kC kU kV kc kg kY kZ;have a1:=TN v hv;have w1:∀m:Nat,m<256->IntKind.u8.wrap (m:Int)=(m:Int):=fun m hm=>by rw[WT];omega
 have sh:∀u:Nat,(u:Int)/2^7=((u/128:Nat):Int):=fun u=>by
  have:(2^7:Int)=128:=by decide
  rw[this];omega
 simp(disch:=omega)only[go_sem,zS,↓reduceIte,Za,Zb,Zc,reduceCtorEq,a1,w1];refine aG fun H1 b1 e1 z1 B1 K1=>?_;have k1:=K1.size;have B1:Bl H1 b1 (w8 [ZG (v % 128)]):=by
  have e:=Mu (v % 128) (by omega);simp only[w8,Y9,YC,<-e];exact B1
 simp only[go_sem,zS,↓reduceIte,Za,Zb,Zc,reduceCtorEq,ae,sh];refine XQ (by omega) ?_;refine aT [11,3,0] rfl (fun n f H'=>∃(u:Nat) (out:List UInt8),n=u/\u<18446744073709551616/\f 0=Z8 ZW u/\br H' (f 3) (w8 out)/\(∀k,ay (f 3) k->H.size<=k)/\out++TL u=le7 v/\af (fun _=>False) H H') (v/128)
  ⟨v/128,[ZG (v % 128)],rfl,by omega,rfl,br.new B1 (by simp[w8]) rfl,fun k (h:k=b1)=>by omega,rfl,K1⟩ ?_
 rintro n g H2 ⟨u,out,rfl,hu,hf0,O2,o2,ho,K2⟩;have hol:out.length<=11:=by
  have:=aS v hv;simp only[dB,W8,<-ho,ZK]at this;omega
 simp only[go_sem,zS,↓reduceIte,Za,Zb,Zc,reduceCtorEq,ae]at hf0 O2 o2;simp only[go_sem,zS,↓reduceIte,Za,Zb,Zc,reduceCtorEq,ae,hf0];refine aN (fun hlt=>?_) (fun ki=>?_)
 ·have hu0:n≠0:=by omega
  have a2:=TN n hu;have o1:=aiS (n % 128) (by omega);simp(disch:=omega)only[go_sem,zS,↓reduceIte,Za,Zb,Zc,reduceCtorEq,ae,hf0,a2,w1,o1,sh];generalize hA:WK H2 _=H3;have B3:Bl H3 H2.size (w8 [ZG (n % 128+128)]):=by
   have e:=Mu (n % 128+128) (by omega);rw[<-hA];simp only[w8,Y9,YC,<-e];exact Bl.dh _ _ _
  have K3:af (fun _=>False) H2 H3:=by rw[<-hA];exact(af.refl _ _).push _
  have K3':=K2.trans K3;refine la H.size (l:=out) (m:=[ZG (n % 128+128)]) (O2.ai K3 (by simp)) o2 (by have:=K3'.size;omega) (aP.bl (l:=w8 [ZG (n % 128+128)]) B3 0 1 1 (by omega) (by simp[w8])) rfl (by simp;omega) fun v4 H4 O4 o4 K4=>?_;simp(disch:=omega)only[go_sem,zS,↓reduceIte,Za,Zb,Zc,reduceCtorEq,ae,hf0,sh];refine XQ (by omega) ?_;refine⟨n/128,by omega,n/128,_,rfl,by omega,rfl,O4,o4,?_,K3'.gK K4 (by omega)⟩;rw[ZA,Xi,<-uX hu0];exact ho
 ·have hu0:n=0:=by omega
  subst hu0;rw[zk,YY]at ho;subst ho;refine(hr _ _ _ O2 (by omega)).mono ?_;rintro r H3 ⟨rfl,O3,K3⟩;simp only[go_sem,zS,↓reduceIte,Za,Zb,Zc,reduceCtorEq,ae];exact⟨O3,o2,K2.trans' K3 (fun i hi e=>by have:=o2 i e;omega)⟩
def adf (hk:ak P k (JH V) JI 1):lD P k:=by
 intro v H hv;refine ah hk (args:=[_]) (by simp) ?_;unfold JH JI kA kB kC kU kV kc kY kZ;have w1:∀m:Nat,m<256->IntKind.u8.wrap (m:Int)=(m:Int):=fun m hm=>by rw[WT];omega
 have w2:∀m:Nat,m<128->IntKind.u8.wrap ((m:Int)+128)=((m+128:Nat):Int):=fun m hm=>by rw[WT];omega
 have w6:∀m:Nat,m<18446744073709551616->IntKind.u64.wrap (m:Int)=(m:Int):=fun m hm=>by rw[Y0];omega
 have rm:∀u:Nat,(u:Int).tmod 128=((u % 128:Nat):Int):=fun u=>by rw[Int.tmod_eq_emod_of_nonneg (by omega)];omega
 have qu:∀u:Nat,(u:Int).tdiv 128=((u/128:Nat):Int):=fun u=>by rw[Int.tdiv_eq_ediv_of_nonneg (by omega)];omega
 simp(disch:=omega)only[go_sem,zS,↓reduceIte,Za,Zb,Zc,reduceCtorEq,rm,w1,w6];refine XQ (by omega) (aG fun H1 b1 e1 z1 B1 K1=>?_);have k1:=K1.size;have B1:Bl H1 b1 (w8 [ZG (v % 128)]):=by
  have e:=Mu (v % 128) (by omega);simp only[w8,Y9,YC,<-e];exact B1
 simp only[go_sem,zS,↓reduceIte,Za,Zb,Zc,reduceCtorEq,ae];refine aT [9,0,3] rfl (fun n f H'=>∃(u:Nat) (out:List UInt8),n=u/\u<18446744073709551616/\f 0=Z8 ZW u/\br H' (f 3) (w8 out)/\(∀k,ay (f 3) k->H.size<=k)/\out.reverse++TL (u/128)=le7 v/\af (fun _=>False) H H') v
  ⟨v,[ZG (v % 128)],rfl,hv,rfl,br.new B1 (by simp[w8]) rfl,fun k (h:k=b1)=>by omega,rfl,K1⟩ ?_
 rintro n g H2 ⟨u,out,rfl,hu,hf0,O2,o2,ho,K2⟩;have hol:out.length<=11:=by
  have:=aS v hv;simp only[dB,W8,<-ho,ZK]at this;omega
 simp only[go_sem,zS,↓reduceIte,Za,Zb,Zc,reduceCtorEq,ae]at hf0 O2 o2;simp only[go_sem,zS,↓reduceIte,Za,Zb,Zc,reduceCtorEq,ae,hf0];refine aN (fun hlt=>?_) (fun ki=>?_)
 ·have hu0:n/128≠0:=by omega
  simp(disch:=omega)only[go_sem,zS,↓reduceIte,Za,Zb,Zc,reduceCtorEq,ae,hf0,qu,rm,w1,w2,w6];have hd:n/128 % 128+128<256:=by omega
  generalize hA:WK H2 _=H3;have B3:Bl H3 H2.size (w8 [ZG (n/128 % 128+128)]):=by
   have e:=Mu (n/128 % 128+128) hd;rw[<-hA];simp only[w8,Y9,YC,<-e];exact Bl.dh _ _ _
  have K3:af (fun _=>False) H2 H3:=by rw[<-hA];exact(af.refl _ _).push _
  have K3':=K2.trans K3;have k2:=K2.size;refine⟨by omega,by omega,la H.size (l:=[ZG (n/128 % 128+128)]) (m:=out) (br.new B3 (by simp[w8]) rfl) (fun k (h:k=H2.size)=>by omega) (by have:=K3'.size;omega) ((O2.ai K3 (by simp)).sl) rfl (by simp;omega) fun v4 H4 O4 o4 K4=>?_⟩;simp(disch:=omega)only[go_sem,zS,↓reduceIte,Za,Zb,Zc,reduceCtorEq,ae,hf0];refine⟨n/128,by omega,n/128,_,rfl,by omega,rfl,O4,o4,?_,K3'.gK K4 (by omega)⟩;rw[List.reverse_append,ZA];rw[uX hu0]at ho;exact ho
 ·have hu0:n/128=0:=by omega
  rw[hu0,zk,YY]at ho;have:out=dB v:=by rw[dB,<-ho,List.reverse_reverse]
  subst this;exact⟨O2,o2,K2⟩
def grow (F:Nat->Prop) (H H':Hp):Nat->Prop:=fun k=>F k\/(H.size<=k/\k<H'.size)
def yc (F:Nat->Prop) (H:Hp) (w:Nat) (l:List UInt8):Prop:=∃v,Bl H w [v]/\br H v (w8 l)/\¬ay v w/\F w/\(∀k,ay v k->F k)/\∀k,F k->k<H.size
def yc.ai (h:yc F H w l) (hk:af W H H') (hw:∀k,F k->¬W k):yc F H' w l:=by
 obtain⟨v,h1,h2,h3,h4,h5,h6⟩:=h;exact⟨v,hk.bl h1 (hw _ h4),h2.ai hk (fun k hb=>hw k (h5 k hb)),h3,h4,h5,fun k hf=>Xv (h6 k hf) hk.size⟩
def yc.bound (h:yc F H w l):∀k,F k->k<H.size:=let⟨_,_,_,_,_,_,h6⟩:=h;h6
def re (P:Program) (k:FuncId):Prop:=∀(F:Nat->Prop) (w:Nat) (l m:List UInt8) (v:ZR) (H:Hp),yc F H w l->aP H v (w8 m)->l.length+m.length<=100000000→
 an P k #[Z7 (ZV ⟨w,0,ZU⟩),v] H fun r H'=>r=ZZ #[]/\yc (grow F H H') H' w (l++m)/\af F H H'
def adg (hk:ak P k (JD V) JE 2):re P k:=by
 intro F w l m v H hw hv hlm;refine ah hk (args:=[_,_]) (by simp) ?_;unfold JD JE kA kD kU kV kc kf kY;obtain⟨u,hB,hO,hn,hFw,hFo,hFs⟩:=hw;simp only[go_sem,zS,↓reduceIte,Za,Zb,Zc,reduceCtorEq,ae,hB.cell];refine ny hO hv rfl (by omega) fun v1 H1 O1 K1 o1=>?_;have B1:=K1.bl hB hn;have hwl:=hB.lt;have h1:=K1.size;have n1:¬ay v1 w:=fun h=>by rcases o1 w h with h|h;exact hn h;omega
 obtain⟨a1,m1,c1,rfl⟩:=O1.shape;have B2:=B1.az 0 (.slice a1 m1 c1);simp only[go_sem,zS,↓reduceIte,Za,Zb,Zc,reduceCtorEq,ae,B1.cell,B1.tL];refine⟨⟨_,B2,O1.ai ((af.refl (fun k=>k=w) H1).az (p:=⟨w,0,ZU⟩) (.slice a1 m1 c1) (.inl rfl)) (fun k h e=>n1 (e▸h)),n1,.inl hFw,fun k h=>?_,fun k h=>?_⟩,(K1.mono fun k _ h=>hFo k h).az (p:=⟨w,0,ZU⟩) _ (.inl hFw)⟩
 ·rcases o1 k h with h'|h'
  ·exact .inl (hFo k h')
  ·exact .inr ⟨h',by rw[dV];exact O1.bo h⟩
 ·have hz:=dV H1 ⟨w,0,ZU⟩ (.slice a1 m1 c1);rw[hz];rcases h with h|h
  ·have:=hFs k h;omega
  ·rw[hz]at h;exact h.2
def xB (P:Program) (k:FuncId):Prop:=∀H,an P k #[] H fun r H'=>r=Z7 (ZV ⟨H.size,0,ZU⟩)/\yc (fun k=>k=H.size) H' H.size []/\af (fun _=>False) H H'
def Mv (hk:ak P k (JB V) JC 0):xB P k:=by
 intro H;refine ah hk (args:=[]) (by simp) ?_;unfold JB JC kB kC kU kc kY kZ;simp only[go_sem,zS,↓reduceIte,Za,Zb,Zc,reduceCtorEq,eJ,gq];refine ax fun H1 b1 e1 z1 B1 K1=>?_;subst e1;simp only[go_sem,zS,↓reduceIte,Za,Zb,Zc,reduceCtorEq,ae];exact⟨⟨_,B1,br.nil _,fun h=>h.elim,rfl,fun k h=>h.elim,fun k h=>by omega⟩,K1⟩
def iu (P:Program) (k:FuncId):Prop:=∀(F:Nat->Prop) (w:Nat) (l:List UInt8) (v:Nat) (H:Hp),yc F H w l->v<18446744073709551616->l.length<=90000000→
 an P k #[Z7 (ZV ⟨w,0,ZU⟩),Z8 ZW v] H fun r H'=>r=ZZ #[]/\yc (grow F H H') H' w (l++dB v)/\af F H H'
def yc.mono {G:Nat->Prop} (h:yc F H w l) (hf:∀k,F k->G k) (hg:∀k,G k->k<H.size):yc G H w l:=by
 obtain⟨v,h1,h2,h3,h4,h5,h6⟩:=h;exact⟨v,h1,h2,h3,hf _ h4,fun k hk=>hf k (h5 k hk),hg⟩
def TO (hk:ak P k (CR V) CS 2) (hg:lD P (V.f 53)) (hr:re P (V.f 56)):iu P k:=by
 intro F w l v H hw hv hl;refine ah hk (args:=[_,_]) (by simp) ?_;unfold CR CS kA kc kg;simp only[go_sem,zS,↓reduceIte,Za,Zb,Zc,reduceCtorEq,ae];refine(hg _ _ hv).mono ?_;rintro r1 H1 ⟨O1,o1,K1⟩;have:=aS v hv;have k1:=K1.size;have hb:=hw.bound;simp only[go_sem,zS,↓reduceIte,Za,Zb,Zc,reduceCtorEq,ae];refine(hr _ _ _ _ _ _ (hw.ai K1 (by simp)) O1.sl (by omega)).mono ?_;rintro r H2 ⟨rfl,W2,K2⟩;simp only[go_sem,zS,↓reduceIte,Za,Zb,Zc,reduceCtorEq,ae];refine⟨W2.mono (fun k h=>?_) (fun k h=>?_),K1.any.trans K2⟩
 ·rcases h with h|h
  ·exact .inl h
  ·exact .inr ⟨by omega,h.2⟩
 ·have:=K2.size;rcases h with h|h
  ·have:=hb k h;omega
  ·exact h.2
def fV (P:Program) (k:FuncId):Prop:=∀(F:Nat->Prop) (w:Nat) (l m:List UInt8) (v:ZR) (H:Hp),yc F H w l->aP H v (w8 m)->(∀k,aV v k->¬F k)->l.length+m.length<=80000000→
 an P k #[Z7 (ZV ⟨w,0,ZU⟩),v] H fun r H'=>r=ZZ #[]/\yc (grow F H H') H' w (l++du m)/\af F H H'
def OG (hk:ak P k (xz V) xA 2) (hu:iu P (V.f 57)) (hr:re P (V.f 56)):fV P k:=by
 intro F w l m v H hw hv hvF hl;refine ah hk (args:=[_,_]) (by simp) ?_;unfold xz xA kA kL kU kc kg kY;have w6:IntKind.u64.wrap (m.length:Int)=(m.length:Int):=by rw[Y0];omega
 simp only[go_sem,zS,↓reduceIte,Za,Zb,Zc,reduceCtorEq,ae,hv.aq,hv.len,aM,w6];refine(hu _ _ _ _ _ hw (by omega) (by omega)).mono ?_;rintro r1 H1 ⟨rfl,W1,K1⟩;have k1:=K1.size;have hb:=hw.bound;have:=aS m.length (by omega);simp only[go_sem,zS,↓reduceIte,Za,Zb,Zc,reduceCtorEq,ae];refine(hr _ _ _ _ _ _ W1 (hv.ai K1 hvF) (by rw[ZK];omega)).mono ?_;rintro r H2 ⟨rfl,W2,K2⟩;have k2:=K2.size;simp only[go_sem,zS,↓reduceIte,Za,Zb,Zc,reduceCtorEq,ae];rw[ZA]at W2;refine⟨W2.mono (fun k h=>?_) (fun k h=>?_),K1.trans' K2 (fun i hi h=>?_)⟩
 ·rcases h with(h|h)|h
  ·exact .inl h
  ·exact .inr ⟨h.1,by omega⟩
  ·exact .inr ⟨by omega,h.2⟩
 ·rcases h with h|h
  ·have:=hb k h;omega
  ·exact h.2
 ·rcases h with h|h
  ·exact h
  ·omega
def mX (P:Program) (k:FuncId):Prop:=∀(F:Nat->Prop) (w:Nat) (l m:List UInt8) (H:Hp),yc F H w l->l.length+m.length<=80000000→
 an P k #[Z7 (ZV ⟨w,0,ZU⟩),.string ⟨m.toArray⟩] H fun r H'=>r=ZZ #[]/\yc (grow F H H') H' w (l++du m)/\af F H H'
def Mw (H:Hp) (m:List UInt8) (T:TypeId) (c:Nat) (hc:m.length<=c):af (fun _=>False) H (H.push (.cells (byteCells ⟨m.toArray⟩++Yz (c -m.length) (Z8 ZX 0)) T (c,c+1)))∧
  aP (H.push (.cells (byteCells ⟨m.toArray⟩++Yz (c -m.length) (Z8 ZX 0)) T (c,c+1))) (Z6 (ZV ⟨H.size,0,ZU⟩) m.length c) (w8 m):=by
 have hbc:(byteCells ⟨m.toArray⟩).toList=w8 m:=by simp[byteCells,w8]
 refine⟨(af.refl _ _).push _,?_⟩;have:=aP.at_ (H:=H.push (.cells (byteCells ⟨m.toArray⟩++Yz (c -m.length) (Z8 ZX 0)) T (c,c+1))) (b:=H.size) (o:=0) (c:=c) (l:=w8 m) (C:=byteCells ⟨m.toArray⟩++Yz (c -m.length) (Z8 ZX 0)) (T:=T) (z:=(c,c+1)) (by rw[aM];exact hc) (by simp) (by
  rw[aM,Array.size_append];have:(byteCells ⟨m.toArray⟩).size=m.length:=by rw[<-Array.length_toList,hbc,aM]
  omega) (by
  rw[Array.toList_append,hbc,List.drop_zero,List.take_left' rfl])
 rwa [aM]at this
def JK (hk:ak P k (tf V) tg 2) (hb:fV P (V.f 58)):mX P k:=by
 intro F w l m H hw hl;refine ah hk (args:=[_,_]) (by simp) ?_;unfold tf tg kA kc kg;simp only[go_sem,zS,↓reduceIte,Za,Zb,Zc,reduceCtorEq,ae];intro c hc;have hc:m.length<=c:=hc;obtain⟨K1,S1⟩:=Mw H m (V.t 19) c hc;generalize WK H _=H1 at*;have k1:=K1.size;have hbd:=hw.bound;refine(hb _ _ _ _ _ _ (hw.ai K1 (by simp)) S1 (fun k h hF=>?_) hl).mono ?_
 ·have h:=h.1;have:=hbd k hF;simp only[]at h;omega
 rintro r H2 ⟨rfl,W2,K2⟩;have k2:=K2.size;simp only[go_sem,zS,↓reduceIte,Za,Zb,Zc,reduceCtorEq,ae];refine⟨W2.mono (fun k h=>?_) (fun k h=>?_),K1.any.trans K2⟩
 ·rcases h with h|h
  ·exact .inl h
  ·exact .inr ⟨by omega,h.2⟩
 ·rcases h with h|h
  ·have:=hbd k h;omega
  ·exact h.2
def xC (P:Program) (k:FuncId):Prop:=∀(F:Nat->Prop) (w:Nat) (l:List UInt8) (H:Hp),yc F H w l->l.length<=100000000→
 an P k #[Z7 (ZV ⟨w,0,ZU⟩)] H fun r H'=>br H' r (w8 l)/\(∀k,ay r k->H.size<=k)/\af (fun _=>False) H H'
def My (hk:ak P k (JF V) JG 1) (hc:jU P (V.f 51)):xC P k:=by
 intro F w l H hw hl;refine ah hk (args:=[_]) (by simp) ?_;unfold JF JG kA kB kC kD kU kV kc kg kY kZ;obtain⟨v,hB,hO,hn,hFw,hFo,hFs⟩:=hw;simp only[go_sem,zS,↓reduceIte,Za,Zb,Zc,reduceCtorEq,ae,hB.cell];refine(hc _ _ _ hO.sl hl).mono ?_;rintro r H1 ⟨O1,o1,K1⟩;simp only[go_sem,zS,↓reduceIte,Za,Zb,Zc,reduceCtorEq,ae];exact⟨O1,o1,K1⟩
def jV (P:Program) (k:FuncId):Prop:=∀(l:List UInt8) (v:ZR) (H:Hp),aP H v (w8 l)->l.length<=80000000->an P k #[v] H fun r H'=>br H' r (w8 (du l))/\(∀k,ay r k->H.size<=k)/\af (fun _=>False) H H'
def TP (hk:ak P k (mU V) mV 1) (hp:lD P (V.f 61)):jV P k:=by
 intro l v H hv hl;refine ah hk (args:=[_]) (by simp) ?_;unfold mU mV kA kB kC kL kU kc kg kY kZ;have w6:IntKind.u64.wrap (l.length:Int)=(l.length:Int):=by rw[Y0];omega
 have:=aS l.length (by omega);simp only[go_sem,zS,↓reduceIte,Za,Zb,Zc,reduceCtorEq,ae,hv.aq,hv.len,aM,w6];refine(hp _ _ (by omega)).mono ?_;rintro r1 H1 ⟨O1,o1,K1⟩;have k1:=K1.size;simp only[go_sem,zS,↓reduceIte,Za,Zb,Zc,reduceCtorEq,ae];refine la H.size O1 o1 k1 (hv.ai K1 (by simp)) rfl (by omega) fun v2 H2 O2 o2 K2=>?_;simp only[go_sem,zS,↓reduceIte,Za,Zb,Zc,reduceCtorEq,ae];exact⟨O2,o2,K1.gK K2 (Nat.le_refl _)⟩
def CT (V:aH):S:=
 kY [kC 2 (Z7 .none)] (kY [kA 3 0,kc 4 (kg (V.f 51) [.t 3]),kU 5 (.m (.bld #[kZ,Z8 ZY 0] [(0,(1,.t 4))])),kc 6 (.box (V.t 107) (.t 5)),kB 2 6] .ret)
def CU:List RV:=[.t 2]
def xD (V:aH):S:=
 kY [kC 4 (Z8 ZY 0)] (.seq (kY [kA 7 0,kc 8 (kg (V.f 109) [.t 7]),kU 9 (.not (.t 8)),kF 10 9,kS 11 10 ZS 0,kS 12 10 ZS 1,kT 13 10 ZS (.cm .lss ZY (.t 12) (.c (Z8 ZY 0))),.ge (.t 14) (.t 10) ZS (kg (V.f 110) [.t 11,.t 13,.c (Z8 ZY 1)]),kT 15 10 ZS (.not (.t 14)),kV 16 (.pick (.t 10) (.c (Z5 ZT)) (.t 15))] (.ite (.v 16) (kY [kC 4 (Z8 ZY 0)] .ret) .skip)) (kY [kA 18 0,kc 19 (kg (V.f 111) [.t 18]),kF 17 19,kQ 20 17 0,kQ 21 17 1,kB 5 20,kB 6 21] (.seq (kY [kA 22 0,kA 23 6,kU 24 (.cm .eql ZY (.t 23) (.c (Z8 ZY 0))),kc 25 (kg (V.f 110) [.t 22,.t 24,.c (Z8 ZY 6)]),kU 26 (.not (.t 25)),kF 27 26,kS 28 27 ZS 0,kS 29 27 ZS 5,kS 30 27 ZS 1,kT 31 27 ZS (.ii ZW (.t 30)),kT 32 27 ZS (.cm .gtr ZW (.t 29) (.t 31)),.ge (.t 33) (.t 27) ZS (kg (V.f 110) [.t 28,.t 32,.c (Z8 ZY 3)]),kT 34 27 ZS (.not (.t 33)),kV 35 (.pick (.t 27) (.c (Z5 ZT)) (.t 34))] (.ite (.v 35) (kY [kC 4 (Z8 ZY 0)] .ret) .skip)) (kY [kA 36 0,kA 37 6,kc 38 (kg (V.f 112) [.t 36,.t 37])] (kY [kA 39 5,kU 40 (.ii ZY (.t 39)),kB 4 40] .ret)))))
def xE:List RV:=[.t 4]
def th (V:aH):S:=
 kY [kC 4 (.string ⟨#[]⟩)] (kY [kA 5 0,kA 6 1,kc 7 (kg (V.f 114) [.t 5,.t 6]),kU 8 (.m (.b2s (.t 7))),kB 4 8] .ret)
def tj:List RV:=[.t 4]
def JL (V:aH):S:=
 kY [kC 2 (Z8 ZY 0)] (.seq (kY [kA 3 0,kc 4 (kg (V.f 109) [.t 3]),kF 5 4,kS 6 5 ZT 0,kT 7 5 ZT (.nil (.t 6)),kT 8 5 ZT (.fa 0 (.t 7)),kT 9 5 ZT (.ld (.t 8)),kT 10 5 ZT (.m (.lenl (.t 9))),kT 11 5 ZT (.cm .gtr ZY (.t 10) (.c (Z8 ZY 0))),kV 12 (.pick (.t 5) (.t 11) (.c (Z5 ZS)))] (.ite (.v 12) (kY [kC 2 (Z8 ZY 6)] .ret) .skip)) (kY [kA 13 0,kc 14 (kg (V.f 116) [.t 13]),kB 2 14] .ret))
def JM:List RV:=[.t 2]
def TQ (V:aH):S:=
 kY [kC 2 (Z5 ZS)] (kY [kA 3 0,kU 4 (.m (.eqn .ptr ZT (.t 3))),kF 5 4,kS 6 5 ZT 0,kT 7 5 ZT (.nil (.t 6)),kT 8 5 ZT (.fa 1 (.t 7)),kT 9 5 ZT (.ld (.t 8)),kT 10 5 ZT (.cm .eql ZY (.t 9) (.c (Z8 ZY 0))),kJ 11 5 10,kB 2 11] .ret)
def TR:List RV:=[.t 2]
def tk (V:aH):S:=
 kY [kC 6 (Z5 ZS)] (.seq (kY [kV 7 (.mv (.v 1))] (.ite (.v 7) (.reg [kA 8 0,kA 9 2,kc 10 (kg (V.f 118) [.t 8,.t 9])]) .skip)) (kY [kA 11 1,kU 12 (.not (.t 11)),kB 6 12] .ret))
def tn:List RV:=[.t 6]
def CV (V:aH):S:=
 kY [kC 2 (Z8 ZW 0),kC 3 (Z8 ZY 0)] (kY [kC 4 (Z8 ZW 0)] (.seq (kY [kA 7 0,kU 8 (.nil (.t 7)),kU 9 (.fa 0 (.t 8)),kV 10 (.ld (.t 9)),kO 11 10,kC 12 (Z8 ZY 0)] (.blk 0 (.loop (kY [kH 13 12 11] (.seq (.ite (.v 13) .skip (.exit 0)) (.seq (.blk 1 (kY [kA 14 12,kK 15 1 10 12,kD 16 15,kB 5 14,kB 6 16] (.seq (kY [kA 17 5,kU 18 (.cm .eql ZY (.t 17) (.c (Z8 ZY 0))),kF 19 18,kS 20 19 ZT 6,kT 21 19 ZT (.cm .eql ZX (.t 20) (.c (Z8 ZX 128))),kJ 22 19 21,kF 23 22,kS 24 23 ZS 4,kT 25 23 ZS (.cm .gtr ZW (.t 24) (.c (Z8 ZW 144115188075855871))),kV 26 (.pick (.t 23) (.c (Z5 ZT)) (.t 25))] (.ite (.v 26) (kY [kC 2 (Z8 ZW 0),kC 3 (Z8 ZY 0)] .ret) .skip)) (kY [kA 27 4,kU 28 (.sh .shl ZW (.t 27) (.c (Z8 ZW 7))),kA 29 6,kU 30 (.bt .and ZX (.t 29) (.c (Z8 ZX 127))),kU 31 (.ii ZW (.t 30)),kU 32 (.bt .or ZW (.t 28) (.t 31)),kB 4 32] (kY [kA 33 6,kV 34 (.cm .lss ZX (.t 33) (.c (Z8 ZX 128)))] (.ite (.v 34) (kY [kA 35 4,kA 36 5,kU 37 (.ar .add ZY (.t 36) (.c (Z8 ZY 1))),kB 2 35,kB 3 37] .ret) .skip)))))) (.reg [ke 38 12,kB 12 38]))))))) (kY [kC 2 (Z8 ZW 0),kC 3 (Z8 ZY 0)] .ret)))
def CW:List RV:=[.t 2,.t 3]
def Da (V:aH):S:=
 kY [kC 4 (kZ)] (kY [kA 6 0,kU 7 (.nil (.t 6)),kU 8 (.fa 0 (.t 7)),kD 9 8,kA 10 1,kU 11 (.m (.sls 1 (.t 9) .none (.some (.t 10)))),kc 12 (kg (V.f 51) [.t 11]),kB 5 12] (kY [kA 13 0,kA 14 0,kU 15 (.nil (.t 14)),kU 16 (.fa 0 (.t 15)),kD 17 16,kA 18 1,kU 19 (.m (.sls 1 (.t 17) (.some (.t 18)) .none)),kU 20 (.nil (.t 13)),kU 21 (.fa 0 (.t 20)),kf (.st (.t 21) (.t 19))] (kY [kA 22 5,kB 4 22] .ret)))
def Db:List RV:=[.t 4]
def xF (V:aH):S:=
 kY [kC 4 (kZ)] (.seq (kY [kA 7 0,kc 8 (kg (V.f 109) [.t 7]),kU 9 (.not (.t 8)),kF 10 9,kS 11 10 ZS 0,kS 12 10 ZS 1,kT 13 10 ZS (.cm .lss ZY (.t 12) (.c (Z8 ZY 0))),.ge (.t 14) (.t 10) ZS (kg (V.f 110) [.t 11,.t 13,.c (Z8 ZY 1)]),kT 15 10 ZS (.not (.t 14)),kV 16 (.pick (.t 10) (.c (Z5 ZT)) (.t 15))] (.ite (.v 16) (kY [kC 4 (kZ)] .ret) .skip)) (kY [kA 18 0,kc 19 (kg (V.f 111) [.t 18]),kF 17 19,kQ 20 17 0,kQ 21 17 1,kB 5 20,kB 6 21] (.seq (kY [kA 22 0,kA 23 6,kU 24 (.cm .eql ZY (.t 23) (.c (Z8 ZY 0))),kc 25 (kg (V.f 110) [.t 22,.t 24,.c (Z8 ZY 6)]),kU 26 (.not (.t 25)),kF 27 26,kS 28 27 ZS 0,kS 29 27 ZS 5,kS 30 27 ZS 1,kT 31 27 ZS (.ii ZW (.t 30)),kT 32 27 ZS (.cm .gtr ZW (.t 29) (.t 31)),.ge (.t 33) (.t 27) ZS (kg (V.f 110) [.t 28,.t 32,.c (Z8 ZY 3)]),kT 34 27 ZS (.not (.t 33)),kU 35 (.pick (.t 27) (.c (Z5 ZT)) (.t 34)),kF 36 35,kS 37 36 ZS 0,kS 38 36 ZS 5,kS 39 36 ZS 0,kT 40 36 ZS (.nil (.t 39)),kT 41 36 ZS (.fa 0 (.t 40)),kT 42 36 ZS (.ld (.t 41)),kT 43 36 ZS (.m (.lenl (.t 42))),kS 44 36 ZS 6,kT 45 36 ZS (.ar .sub ZY (.t 43) (.t 44)),kT 46 36 ZS (.ii ZW (.t 45)),kT 47 36 ZS (.cm .gtr ZW (.t 38) (.t 46)),.ge (.t 48) (.t 36) ZS (kg (V.f 110) [.t 37,.t 47,.c (Z8 ZY 6)]),kT 49 36 ZS (.not (.t 48)),kV 50 (.pick (.t 36) (.c (Z5 ZT)) (.t 49))] (.ite (.v 50) (kY [kC 4 (kZ)] .ret) .skip)) (kY [kA 51 0,kA 52 6,kc 53 (kg (V.f 112) [.t 51,.t 52])] (kY [kA 54 0,kA 55 5,kU 56 (.ii ZY (.t 55)),kc 57 (kg (V.f 112) [.t 54,.t 56]),kB 4 57] .ret)))))
def xG:List RV:=[.t 4]
def JN (V:aH):S:=
 kY [kC 2 (Z8 ZY 0)] (.seq (kY [kA 3 0,kV 4 (.m (.eqn .ptr ZS (.t 3)))] (.ite (.v 4) (kY [kC 2 (Z8 ZY 1)] .ret) .skip)) (kY [kA 5 0,kU 6 (.nil (.t 5)),kU 7 (.fa 1 (.t 6)),kD 8 7,kB 2 8] .ret))
def JO:List RV:=[.t 2]
def Dc (V:aH):S:=
 kY [kA 4 0,kd 5 (kg (V.f 109) [.t 4])] (.ite (.v 5) (.reg [kA 6 0,kA 7 1,kU 8 (.nil (.t 6)),kU 9 (.fa 1 (.t 8)),kf (.st (.t 9) (.t 7))]) .skip)
def Dd:List RV:=[]
def fA:Bool->Nat->List UInt8->Option (Nat×List UInt8)
 |_,_,[]=>ZU
 |first,v,b::r=>if(first=ZT/\b.toNat=128)\/v>144115188075855871 then ZU else if b.toNat<128 then ZV (v*128+b.toNat % 128,r)else fA ZS (v*128+b.toNat % 128) r
def tq (first:Bool) (v:Nat) (b:UInt8) (r:List UInt8):fA first v (b::r)=if(first=ZT/\b.toNat=128)\/v>144115188075855871 then ZU else if b.toNat<128 then ZV (v*128+b.toNat % 128,r)else fA ZS (v*128+b.toNat % 128) r:=by rw[fA]
def jW:∀(l:List UInt8) (first:Bool) (u v:Nat) (r:List UInt8),fA first u l=ZV (v,r)->r.length<l.length/\r=l.drop (l.length -r.length)/\v<18446744073709551616
 |[],_,_,_,_,h=>by simp[fA]at h
 |b::l,first,u,v,r,h=>by
  unfold fA at h
  split at h
  ·cases h
  ·rename_i c1
   split at h
   ·cases h
    refine⟨by simp,?_,by omega⟩;simp
   ·obtain⟨h1,h2,h3⟩:=jW l ZS _ v r h;refine⟨by simp;omega,?_,h3⟩;have e:(b::l).length -r.length=(l.length -r.length)+1:=by simp;omega
    rw[e,List.drop_succ_cons];exact h2
def hi7 (u:Nat):List UInt8:=(TL u).reverse
def aeG:hi7 0=[]:=by rw[hi7,zk];rfl
def adh (h:u≠0):hi7 u=hi7 (u/128)++[ZG (u % 128+128)]:=by
 rw[hi7,uX h,V8];rfl
def adi (v:Nat):dB v=hi7 (v/128)++[ZG (v % 128)]:=by
 rw[dB,le7,V8];rfl
def ofNat_lt (n:Nat) (h:n<256):(ZG n).toNat=n:=by rw[YR];omega
def adj (u:Nat) (h0:u≠0) (h:u<=144115188075855871) (r:List UInt8):fA ZT 0 (hi7 u++r)=fA ZS u r:=by
 induction u using Nat.strongRecOn generalizing r with
 |ind u ih=>
  rw[adh h0,ZA,Xi];have e:=ofNat_lt (u % 128+128) (by omega)
  by_cases c:u/128=0
  ·rw[c,aeG,XG,fA,e,if_neg (by omega),if_neg (by omega)]
   congr 1;omega
  ·rw[ih (u/128) (by omega) c (by omega),fA,e,if_neg (by simp;omega),if_neg (by omega)]
   congr 1;omega
def xH (v:Nat) (h:v<18446744073709551616) (r:List UInt8):fA ZT 0 (dB v++r)=ZV (v,r):=by
 rw[adi,ZA,Xi];have e:=ofNat_lt (v % 128) (by omega)
 by_cases c:v/128=0
 ·rw[c,aeG,XG,fA,e,if_neg (by omega),if_pos (by omega)]
  congr 2;omega
 ·rw[adj _ c (by omega),fA,e,if_neg (by simp;omega),if_pos (by omega)]
  congr 2;omega
def jm (F:Nat->Prop) (H:Hp) (r:Nat) (l:List UInt8) (e:Int):Prop:=∃v,Bl H r [v,Z8 ZY e]/\aP H v (w8 l)/\F r/\(∀k,aV v k->F k/\k≠r)/\∀k,F k->k<H.size
def jm.ai (h:jm F H r l e) (hk:af W H H') (hw:∀k,F k->¬W k):jm F H' r l e:=by
 obtain⟨v,h1,h2,h3,h4,h5⟩:=h;exact⟨v,hk.bl h1 (hw _ h3),h2.ai hk (fun k hb=>hw k (h4 k hb).1),h3,h4,fun k hf=>Xv (h5 k hf) hk.size⟩
def jm.bound (h:jm F H r l e):∀k,F k->k<H.size:=let⟨_,_,_,_,_,h6⟩:=h;h6
def jm.at (h:jm F H r l e):F r:=let⟨_,_,_,h,_⟩:=h;h
def tt (P:Program) (k:FuncId):Prop:=∀(l:List UInt8) (v:ZR) (H:Hp),aP H v (w8 l)->l.length<=100000000->an P k #[v] H fun x H'=>∃b F,x=Z7 (ZV ⟨b,0,ZU⟩)/\jm F H' b l 0/\(∀k,F k->H.size<=k)/\af (fun _=>False) H H'
def FJ (hk:ak P k (CT V) CU 1) (hc:jU P (V.f 51)):tt P k:=by
 intro l v H hv hl;refine ah hk (args:=[_]) (by simp) ?_;unfold CT CU kA kB kC kU kc kg kY kZ;simp only[go_sem,zS,↓reduceIte,Za,Zb,Zc,reduceCtorEq,ae,zU,Zf,Zg];refine(hc _ _ _ hv hl).mono ?_;rintro x H1 ⟨O1,o1,K1⟩;obtain⟨a,n,c,rfl⟩:=O1.shape;simp only[go_sem,zS,↓reduceIte,Za,Zb,Zc,reduceCtorEq,ae,zU,Zf,Zg,eJ,gq,Value.cells];generalize hA:WK H1 _=H2;have KA:af (fun _=>False) H1 H2:=by rw[<-hA];exact(af.refl _ _).push _
 have BA:Bl H2 H1.size [.slice a n c,Z8 ZY 0]:=by rw[<-hA];exact Bl.dh _ _ _
 have k1:=K1.size;refine⟨by simp,H1.size,fun k=>k=H1.size\/aV (.slice a n c) k,rfl,⟨_,BA,(O1.sl).ai KA (by simp),.inl rfl,fun k hk=>⟨.inr hk,?_⟩,fun k hk=>?_⟩,fun k hk=>?_,K1.trans KA⟩
 ·have:=O1.bo (O1.aV hk);omega
 ·have q:=BA.lt;rcases hk with rfl|hk
  ·exact q
  ·have:=O1.bo (O1.aV hk);omega
 ·rcases hk with rfl|hk
  ·exact k1
  ·exact o1 _ (O1.aV hk)
def ic (P:Program) (k:FuncId):Prop:=∀(F:Nat->Prop) (r:Nat) (l:List UInt8) (e:Int) (H:Hp),jm F H r l e->an P k #[Z7 (ZV ⟨r,0,ZU⟩)] H fun x H'=>x=.bool (e==0)/\H'=H
def agK (hk:ak P k (TQ V) TR 1):ic P k:=by
 intro F r l e H hr;refine ah hk (args:=[_]) (by simp) ?_;unfold TQ TR kA kB kF kC kJ kS kT kU kY;obtain⟨v,B,S,f1,f2,f3⟩:=hr;simp only[go_sem,zS,↓reduceIte,Za,Zb,Zc,reduceCtorEq,ae,zU,Zf,Zg,B.cell]
def zm (P:Program) (k:FuncId):Prop:=∀(F:Nat->Prop) (r:Nat) (l:List UInt8) (e e2:Int) (H:Hp),jm F H r l e->an P k #[Z7 (ZV ⟨r,0,ZU⟩),Z8 ZY e2] H fun x H'=>x=ZZ #[]/\jm F H' r l (if e=0 then e2 else e)/\af (fun k=>k=r) H H'
def TS (hk:ak P k (Dc V) Dd 2) (ho:ic P (V.f 109)):zm P k:=by
 intro F r l e e2 H hr;refine ah hk (args:=[_,_]) (by simp) ?_;unfold Dc Dd kA kU kd kf kg kY;simp only[go_sem,zS,↓reduceIte,Za,Zb,Zc,reduceCtorEq,ae,zU,Zf,Zg];refine(ho _ _ _ _ _ hr).mono ?_;rintro x H1 ⟨rfl,rfl⟩
 by_cases c:e=0
 ·subst c;obtain⟨v,B,S,f1,f2,f3⟩:=hr;simp only[go_sem,zS,↓reduceIte,Za,Zb,Zc,reduceCtorEq,ae,zU,Zf,Zg,B.cell,B.tL];have K:=(af.refl (fun k=>k=r) H1).az (p:=⟨r,0+1,ZU⟩) (Z8 ZY e2) (.inl rfl);refine⟨⟨v,B.az 1 (Z8 ZY e2),S.ai K (fun k hk=>(f2 k hk).2),f1,f2,fun k hk=>by rw[dV];exact f3 k hk⟩,K⟩
 ·have e1:(e==0)=ZS:=by simpa using c
  simp only[go_sem,zS,↓reduceIte,Za,Zb,Zc,reduceCtorEq,ae,zU,Zf,Zg,e1,c];exact⟨hr,af.refl _ _⟩
def jX (P:Program) (k:FuncId):Prop:=∀(F:Nat->Prop) (r:Nat) (l:List UInt8) (e2:Int) (b:Bool) (H:Hp),jm F H r l 0->an P k #[Z7 (ZV ⟨r,0,ZU⟩),.bool b,Z8 ZY e2] H fun x H'=>x=.bool (!b)/\jm F H' r l (if b=ZT then e2 else 0)/\af (fun k=>k=r) H H'
def JP (hk:ak P k (tk V) tn 3) (hf:zm P (V.f 118)):jX P k:=by
 intro F r l e2 b H hr;refine ah hk (args:=[_,_,_]) (by simp) ?_;unfold tk tn kA kB kC kU kV kc kg kY
 cases b with
 |false=>
  simp only[go_sem,zS,↓reduceIte,Za,Zb,Zc,reduceCtorEq,ae,zU,Zf,Zg];exact⟨hr,af.refl _ _⟩
 |true=>
  simp only[go_sem,zS,↓reduceIte,Za,Zb,Zc,reduceCtorEq,ae,zU,Zf,Zg];refine(hf _ _ _ _ _ _ hr).mono ?_;rintro x H1 ⟨rfl,R1,K1⟩;simp only[go_sem,zS,↓reduceIte,Za,Zb,Zc,reduceCtorEq,ae,zU,Zf,Zg]at R1⊢;exact⟨R1,K1⟩
def FK (P:Program) (k:FuncId):Prop:=∀(F:Nat->Prop) (r:Nat) (l:List UInt8) (e:Int) (H:Hp),jm F H r l e->an P k #[Z7 (ZV ⟨r,0,ZU⟩)] H fun x H'=>x=Z8 ZY e/\H'=H
def Mz (hk:ak P k (JN V) JO 1):FK P k:=by
 intro F r l e H hr;refine ah hk (args:=[_]) (by simp) ?_;unfold JN JO kA kB kC kD kU kV kY;obtain⟨v,B,S,f1,f2,f3⟩:=hr;simp only[go_sem,zS,↓reduceIte,Za,Zb,Zc,reduceCtorEq,ae,zU,Zf,Zg,B.cell]
def rh (s:List UInt8×Int):Int:=if s.2=0/\0<s.1.length then 6 else s.2
def xI (P:Program) (k:FuncId):Prop:=∀(F:Nat->Prop) (r:Nat) (l:List UInt8) (e:Int) (H:Hp),jm F H r l e->an P k #[Z7 (ZV ⟨r,0,ZU⟩)] H fun x H'=>x=Z8 ZY (rh (l,e))/\H'=H
def MA (hk:ak P k (JL V) JM 1) (ho:ic P (V.f 109)) (her:FK P (V.f 116)):xI P k:=by
 intro F r l e H hr;refine ah hk (args:=[_]) (by simp) ?_;unfold JL JM kA kB kF kC kS kT kV kc kg kY;simp only[go_sem,zS,↓reduceIte,Za,Zb,Zc,reduceCtorEq,ae,zU,Zf,Zg];refine(ho _ _ _ _ _ hr).mono ?_;rintro x H1 ⟨rfl,rfl⟩;have dD:=hr;obtain⟨v,B,S,f1,f2,f3⟩:=dD
 by_cases c:e=0
 ·subst c
  by_cases c2:(l.length:Int)>0
  ·have:rh (l,0)=6:=by unfold rh;rw[if_pos ⟨rfl,by simpa using c2⟩]
   simp only[go_sem,zS,↓reduceIte,Za,Zb,Zc,reduceCtorEq,ae,zU,Zf,Zg,B.cell,S.aq,S.len,aM,c2,this]
  ·have:rh (l,0)=0:=by unfold rh;rw[if_neg (fun h=>by have h2:0<l.length:=h.2;omega)]
   simp only[go_sem,zS,↓reduceIte,Za,Zb,Zc,reduceCtorEq,ae,zU,Zf,Zg,B.cell,S.aq,S.len,aM,c2,this];refine(her _ _ _ _ _ hr).mono ?_;rintro x H1 ⟨rfl,rfl⟩;simp only[go_sem,zS,↓reduceIte,Za,Zb,Zc,reduceCtorEq,ae,zU,Zf,Zg]
 ·have e1:(e==0)=ZS:=by simpa using c
  have:rh (l,e)=e:=by unfold rh;rw[if_neg (by simp[c])]
  simp only[go_sem,zS,↓reduceIte,Za,Zb,Zc,reduceCtorEq,ae,zU,Zf,Zg,e1,this];refine(her _ _ _ _ _ hr).mono ?_;rintro x H1 ⟨rfl,rfl⟩;simp only[go_sem,zS,↓reduceIte,Za,Zb,Zc,reduceCtorEq,ae,zU,Zf,Zg]
def ri (l:List UInt8):Nat×Nat:=match fA ZT 0 l with|some (v,r)=>(v,l.length -r.length)|none=>(0,0)
def adk (b:UInt8):bits .and ZX (b.toNat:Int) 127=((b.toNat % 128:Nat):Int):=by
 have:∀m:Fin 256,bits .and ZX ((m.val:Nat):Int) 127=((m.val % 128:Nat):Int):=by decide+kernel
 exact this ⟨b.toNat,b.toNat_lt⟩
def or7 (a b:Nat) (hb:b<128) (h:a*128+b<18446744073709551616):bits .or ZW ((a*128:Nat):Int) (b:Int)=((a*128+b:Nat):Int):=by
 have e1:((a*128:Nat):Int)=((Y7 (a*128)).toNat:Int):=by rw[Zm];omega
 have e2:(b:Int)=((Y7 b).toNat:Int):=by rw[Zm];omega
 rw[e1,e2,uI,UInt64.toNat_or,Zm,Zm,YF (by omega),YF (by omega)];have e3:a*128=a<<<7:=by rw[Nat.shiftLeft_eq]
 rw[e3,<-Nat.shiftLeft_add_eq_or_of_lt (show b<2^7 from hb)]
def jY (P:Program) (k:FuncId):Prop:=∀(F:Nat->Prop) (r:Nat) (l:List UInt8) (e:Int) (H:Hp),jm F H r l e->l.length<=100000000->an P k #[Z7 (ZV ⟨r,0,ZU⟩)] H fun x H'=>x=ZZ #[Z8 ZW (ri l).1,Z8 ZY (ri l).2]/\H'=H
def TT (hk:ak P k (CV V) CW 1):jY P k:=by
 intro F r l e H hr hl;refine ah hk (args:=[_]) (by simp) ?_;unfold CV CW kA kB kF kC kD ke kH kK kJ kO kS kT kU kV kY;obtain⟨v,B,S,f1,f2,f3⟩:=hr;simp only[go_sem,zS,↓reduceIte,Za,Zb,Zc,reduceCtorEq,ae,zU,Zf,Zg,B.cell,S.aq,S.len,aM];refine aT [13,5,6,26,2,3,4,34,12] rfl (fun n f H'=>∃i u:Nat,i<=l.length/\n=l.length -i/\f 12=Z8 ZY i/\f 4=Z8 ZW u/\u<18446744073709551616/\H'=H/\fA ZT 0 l=fA (i==0) u (l.drop i)) l.length
  ⟨0,0,by omega,by omega,rfl,rfl,by omega,rfl,rfl⟩ ?_
 rintro n g H' ⟨i,u,hi,rfl,De,yJ,hu,rfl,hd⟩;simp only[go_sem,zS,↓reduceIte,Za,Zb,Zc,reduceCtorEq,ae,zU,Zf,Zg]at De yJ;simp only[go_sem,zS,↓reduceIte,Za,Zb,Zc,reduceCtorEq,ae,zU,Zf,Zg,De,yJ];refine aN (fun hlt=>?_) (fun ki=>?_)
 ·have ou:i<l.length:=by omega
  obtain⟨bV,oV,cV,rfl,-,-⟩:=S.cells (by intro e;have h:=congrArg Y8 e;rw[aM,Zx]at h;omega);have hcell:=S.pV (i:=i) (by rw[aM];omega);rw[k8 _ _ ou]at hcell;have e1:l.drop i=l.getD i 0::l.drop (i+1):=by
   rw[List.drop_eq_getElem_cons ou];simp[ou]
  rw[e1]at hd;generalize l.getD i 0=b at*;have hb:=b.toNat_lt;have a1:=adk b;have w1:IntKind.u64.wrap ((b.toNat % 128:Nat):Int)=((b.toNat % 128:Nat):Int):=by rw[Y0];omega
  have i0:((i:Int)==0)=(i==0):=by
   by_cases h:i=0
   ·subst h;rfl
   ·rw[beq_eq_false_iff_ne.2 (by omega:(i:Int)≠0),beq_eq_false_iff_ne.2 h]
  have b0:((b.toNat:Int)==128)=(b.toNat==128):=by
   by_cases h:b.toNat=128
   ·rw[h];rfl
   ·rw[beq_eq_false_iff_ne.2 (by omega:(b.toNat:Int)≠128),beq_eq_false_iff_ne.2 h]
  rw[tq]at hd
  by_cases c1:((i==0)=ZT/\b.toNat=128)
  ·obtain⟨h1,h2⟩:=c1;rw[if_pos (.inl ⟨h1,h2⟩)]at hd;have:ri l=(0,0):=by unfold ri;rw[hd]
   have h3:(b.toNat==128)=ZT:=by simpa using h2
   simp only[go_sem,zS,↓reduceIte,Za,Zb,Zc,reduceCtorEq,ae,zU,Zf,Zg,De,yJ,hcell,al,aM,i0,h1,b0,h3,this];exact⟨by omega,by omega⟩
  by_cases c2:u>144115188075855871
  ·rw[if_pos (.inr c2)]at hd;have:ri l=(0,0):=by unfold ri;rw[hd]
   have c3:(u:Int)>144115188075855871:=by omega
   by_cases h1:(i==0)=ZT
   ·have h3:(b.toNat==128)=ZS:=by simpa using fun e=>c1 ⟨h1,e⟩
    simp only[go_sem,zS,↓reduceIte,Za,Zb,Zc,reduceCtorEq,ae,zU,Zf,Zg,De,yJ,hcell,al,aM,i0,h1,b0,h3,c3,this];exact⟨by omega,by omega⟩
   ·have h1:(i==0)=ZS:=by simpa using h1
    simp only[go_sem,zS,↓reduceIte,Za,Zb,Zc,reduceCtorEq,ae,zU,Zf,Zg,De,yJ,hcell,al,aM,i0,h1,c3,this];exact⟨by omega,by omega⟩
  rw[if_neg (by rintro(h|h);exact c1 h;exact c2 h)]at hd;have c3:¬(u:Int)>144115188075855871:=by omega
  have sh:IntKind.u64.wrap ((u:Int)*2^7)=((u*128:Nat):Int):=by
   have:(2^7:Int)=128:=by decide
   rw[this,Y0];omega
  have o1:=or7 u (b.toNat % 128) (by omega) (by omega);have wi:IntKind.i64.wrap ((i:Int)+1)=((i+1:Nat):Int):=ZN _ ⟨by omega,by omega⟩;have hs:(i+1==0)=ZS:=rfl
  by_cases c4:b.toNat<128
  ·rw[if_pos c4]at hd;have:ri l=(u*128+b.toNat % 128,i+1):=by
    unfold ri;rw[hd];have:(l.drop (i+1)).length=l.length -(i+1):=List.length_drop;simp only[this]
    congr 1;omega
   have c5:(b.toNat:Int)<128:=by omega
   by_cases h1:(i==0)=ZT
   ·have h3:(b.toNat==128)=ZS:=by simpa using fun e=>c1 ⟨h1,e⟩
    simp only[go_sem,zS,↓reduceIte,Za,Zb,Zc,reduceCtorEq,ae,zU,Zf,Zg,De,yJ,hcell,al,aM,i0,h1,b0,h3,c3,this,a1,w1,sh,o1,c5,wi];exact⟨⟨by omega,by omega⟩,by decide⟩
   ·have h1:(i==0)=ZS:=by simpa using h1
    simp only[go_sem,zS,↓reduceIte,Za,Zb,Zc,reduceCtorEq,ae,zU,Zf,Zg,De,yJ,hcell,al,aM,i0,h1,c3,this,a1,w1,sh,o1,c5,wi];exact⟨⟨by omega,by omega⟩,by decide⟩
  ·rw[if_neg c4]at hd;have c5:¬(b.toNat:Int)<128:=by omega
   by_cases h1:(i==0)=ZT
   ·have h3:(b.toNat==128)=ZS:=by simpa using fun e=>c1 ⟨h1,e⟩
    simp only[go_sem,zS,↓reduceIte,Za,Zb,Zc,reduceCtorEq,ae,zU,Zf,Zg,De,yJ,hcell,al,aM,i0,h1,b0,h3,c3,a1,w1,sh,o1,c5,wi];exact⟨⟨by omega,by omega⟩,by decide,l.length -(i+1),by omega,i+1,_,by omega,rfl,rfl,rfl,by omega,by rw[hs];exact hd⟩
   ·have h1:(i==0)=ZS:=by simpa using h1
    simp only[go_sem,zS,↓reduceIte,Za,Zb,Zc,reduceCtorEq,ae,zU,Zf,Zg,De,yJ,hcell,al,aM,i0,h1,c3,a1,w1,sh,o1,c5,wi];exact⟨⟨by omega,by omega⟩,by decide,l.length -(i+1),by omega,i+1,_,by omega,rfl,rfl,rfl,by omega,by rw[hs];exact hd⟩
 ·have ou:i=l.length:=by omega
  subst ou;rw[List.drop_length,fA]at hd;have:ri l=(0,0):=by unfold ri;rw[hd]
  simp only[go_sem,zS,↓reduceIte,Za,Zb,Zc,reduceCtorEq,ae,zU,Zf,Zg,this]
def tw {v:Nat} {r:List UInt8} (h:fA ZT 0 l=ZV (v,r)):ri l=(v,l.length -r.length)/\r.length<l.length/\l.drop (l.length -r.length)=r/\v<18446744073709551616:=by
 obtain⟨h1,h2,h3⟩:=jW l ZT 0 v r h;exact⟨by unfold ri;rw[h],h1,h2.symm,h3⟩
def tx (h:fA ZT 0 l=ZU):ri l=(0,0):=by unfold ri;rw[h]
def jZ (P:Program) (k:FuncId):Prop:=∀(F:Nat->Prop) (r:Nat) (l:List UInt8) (e:Int) (n:Nat) (H:Hp),jm F H r l e->n<=l.length->l.length<=100000000->an P k #[Z7 (ZV ⟨r,0,ZU⟩),Z8 ZY n] H fun x H'=>
 br H' x (w8 (l.take n))/\(∀k,ay x k->H.size<=k)/\jm F H' r (l.drop n) e/\af (fun k=>k=r) H H'
def TU (hk:ak P k (Da V) Db 2) (hc:jU P (V.f 51)):jZ P k:=by
 intro F r l e n H hr hn hl;refine ah hk (args:=[_,_]) (by simp) ?_;unfold Da Db kA kB kC kD kU kc kf kg kY kZ;obtain⟨v,B,S,f1,f2,f3⟩:=hr;have PK:=S.cap;rw[aM]at PK;simp only[go_sem,zS,↓reduceIte,Za,Zb,Zc,reduceCtorEq,ae,zU,Zf,Zg,B.cell,S.aq,S.len,aM];refine XQ ⟨by omega,by omega⟩ ?_;have ST:=S.take (n:=n) (by rw[aM];exact hn);rw[aag]at ST;refine(hc _ _ _ ST (by simp;omega)).mono ?_;rintro x H1 ⟨O1,o1,K1⟩;have B1:=K1.bl B id;have S1:=S.ai K1 (by simp);have SD:=S1.drop (n:=n) (by rw[aM];exact hn);rw[aah]at SD;simp only[go_sem,zS,↓reduceIte,Za,Zb,Zc,reduceCtorEq,ae,zU,Zf,Zg,B1.cell,S1.aq,S1.len,aM,B1.tL];obtain⟨a,m,c,hsl⟩:∃a m c,xW v 1 (ZV (n:Int)) ZU=.slice a m c:=by
  obtain⟨a,c,h,-⟩:=SD.mk;exact⟨_,_,_,h⟩
 have k1:=K1.size;have UK:=B.lt;have KS:=(af.refl (fun k=>k=r) H1).az (p:=⟨r,0,ZU⟩) (xW v 1 (ZV (n:Int)) ZU) (.inl rfl);have BS:=B1.az 0 (xW v 1 (ZV (n:Int)) ZU);rw[hsl]at KS BS SD⊢;refine⟨⟨by omega,by omega⟩,rfl,O1.ai KS (fun k h e=>by have:=o1 k h;omega),o1,⟨_,BS,SD.ai KS (fun k hk=>?_),f1,fun k hk=>?_,fun k hk=>?_⟩,K1.any.trans KS⟩
 ·exact(f2 k (Ep (z:=1) (n:=n) (by rw[hsl];exact hk))).2
 ·exact f2 k (Ep (z:=1) (n:=n) (by rw[hsl];exact hk))
 ·rw[dV];have:=f3 k hk;omega
def bF (most:Nat) (s:List UInt8×Int):Nat×(List UInt8×Int):=
 if s.2≠0 then(0,s)else match fA ZT 0 s.1 with|none=>(0,(s.1,6))|some (v,r)=>if v>most then(0,(s.1,3))else(v,(r,0))
def bj (most:Nat) (s:List UInt8×Int):List UInt8×(List UInt8×Int):=
 if s.2≠0 then([],s)else match fA ZT 0 s.1 with|none=>([],(s.1,6))|some (v,r)=>if v>most then([],(s.1,3))else if v>r.length then([],(s.1,6))else(r.take v,(r.drop v,0))
def pt (P:Program) (k:FuncId):Prop:=∀(F:Nat->Prop) (r:Nat) (s:List UInt8×Int) (most:Nat) (H:Hp),jm F H r s.1 s.2->s.1.length<=100000000->most<=1000000000->an P k #[Z7 (ZV ⟨r,0,ZU⟩),Z8 ZY most] H fun x H'=>
 x=Z8 ZY (bF most s).1/\jm F H' r (bF most s).2.1 (bF most s).2.2/\af (fun k=>k=r) H H'
def zn (hk:ak P k (xD V) xE 2) (ho:ic P (V.f 109)) (hrf:jX P (V.f 110)) (hn:jY P (V.f 111)) (ht:jZ P (V.f 112)):pt P k:=by
 rintro F r ⟨l,e⟩ most H hr hl hm;refine ah hk (args:=[_,_]) (by simp) ?_;unfold xD xE kA kB kF kC kQ kS kT kU kV kc kg kY;simp only at hr hl;simp only[go_sem,zS,↓reduceIte,Za,Zb,Zc,reduceCtorEq,ae,zU,Zf,Zg];refine(ho _ _ _ _ _ hr).mono ?_;rintro x H1 ⟨rfl,rfl⟩
 by_cases c:e=0
 case neg=>
  have e1:(e==0)=ZS:=by simpa using c
  have:bF most (l,e)=(0,(l,e)):=by unfold bF;rw[if_pos (by simpa using c)]
  simp only[go_sem,zS,↓reduceIte,Za,Zb,Zc,reduceCtorEq,ae,zU,Zf,Zg,e1,this];exact⟨hr,af.refl _ _⟩
 subst c;have hm0:¬(most:Int)<0:=by omega
 simp only[go_sem,zS,↓reduceIte,Za,Zb,Zc,reduceCtorEq,ae,zU,Zf,Zg,hm0];refine(hrf _ _ _ _ _ _ hr).mono ?_;rintro x H2 ⟨rfl,R2,K2⟩;simp only[ZD,if_false]at R2;simp only[go_sem,zS,↓reduceIte,Za,Zb,Zc,reduceCtorEq,ae,zU,Zf,Zg];refine(hn _ _ _ _ _ R2 hl).mono ?_;rintro x H2' ⟨rfl,rfl⟩;have wm:IntKind.u64.wrap (most:Int)=(most:Int):=by rw[Y0];omega
 cases hd:fA ZT 0 l with
 |none=>
  have:bF most (l,0)=(0,(l,6)):=by unfold bF;rw[if_neg (by simp),hd]
  rw[tx hd,this];simp only[go_sem,zS,↓reduceIte,Za,Zb,Zc,reduceCtorEq,ae,zU,Zf,Zg];refine(hrf _ _ _ _ _ _ R2).mono ?_;rintro x H3 ⟨rfl,R3,K3⟩;simp only[go_sem,zS,↓reduceIte,Za,Zb,Zc,reduceCtorEq,ae,zU,Zf,Zg]at R3;simp only[go_sem,zS,↓reduceIte,Za,Zb,Zc,reduceCtorEq,ae,zU,Zf,Zg];exact⟨R3,K2.trans K3⟩
 |some p=>
  obtain⟨v,q⟩:=p;obtain⟨h1,h2,h3,h4⟩:=tw hd;rw[h1];have hq:(((l.length -q.length:Nat):Int)==0)=ZS:=by simp;omega
  simp only[go_sem,zS,↓reduceIte,Za,Zb,Zc,reduceCtorEq,ae,zU,Zf,Zg,hq];refine(hrf _ _ _ _ _ _ R2).mono ?_;rintro x H3 ⟨rfl,R3,K3⟩;simp only[go_sem,zS,↓reduceIte,Za,Zb,Zc,reduceCtorEq,ae,zU,Zf,Zg]at R3;have hr0:bF most (l,0)=if v>most then(0,(l,3))else(v,(q,0)):=by unfold bF;rw[if_neg (by simp),hd]
  by_cases cv:v>most
  ·have BV:(v:Int)>(most:Int):=by omega
   rw[hr0,if_pos cv];simp only[go_sem,zS,↓reduceIte,Za,Zb,Zc,reduceCtorEq,ae,zU,Zf,Zg,wm,BV];refine(hrf _ _ _ _ _ _ R3).mono ?_;rintro x H4 ⟨rfl,R4,K4⟩;simp only[go_sem,zS,↓reduceIte,Za,Zb,Zc,reduceCtorEq,ae,zU,Zf,Zg]at R4;simp only[go_sem,zS,↓reduceIte,Za,Zb,Zc,reduceCtorEq,ae,zU,Zf,Zg];exact⟨R4,(K2.trans K3).trans K4⟩
  ·have BV:¬(v:Int)>(most:Int):=by omega
   have wv:IntKind.i64.wrap (v:Int)=(v:Int):=ZN _ ⟨by omega,by omega⟩;rw[hr0,if_neg cv];simp only[go_sem,zS,↓reduceIte,Za,Zb,Zc,reduceCtorEq,ae,zU,Zf,Zg,wm,BV];refine(hrf _ _ _ _ _ _ R3).mono ?_;rintro x H4 ⟨rfl,R4,K4⟩;simp only[go_sem,zS,↓reduceIte,Za,Zb,Zc,reduceCtorEq,ae,zU,Zf,Zg]at R4;simp only[go_sem,zS,↓reduceIte,Za,Zb,Zc,reduceCtorEq,ae,zU,Zf,Zg];refine(ht _ _ _ _ _ _ R4 (by omega) hl).mono ?_;rintro x H5 ⟨O5,o5,R5,K5⟩;rw[h3]at R5;simp only[go_sem,zS,↓reduceIte,Za,Zb,Zc,reduceCtorEq,ae,zU,Zf,Zg,wv];exact⟨R5,((K2.trans K3).trans K4).trans K5⟩
def mY (P:Program) (k:FuncId):Prop:=∀(F:Nat->Prop) (r:Nat) (s:List UInt8×Int) (most:Nat) (H:Hp),jm F H r s.1 s.2->s.1.length<=100000000->most<=1000000000->an P k #[Z7 (ZV ⟨r,0,ZU⟩),Z8 ZY most] H fun x H'=>
 br H' x (w8 (bj most s).1)/\(∀k,ay x k->H.size<=k)/\jm F H' r (bj most s).2.1 (bj most s).2.2/\af (fun k=>k=r) H H'
def OH (hk:ak P k (xF V) xG 2) (ho:ic P (V.f 109)) (hrf:jX P (V.f 110)) (hn:jY P (V.f 111)) (ht:jZ P (V.f 112)):mY P k:=by
 rintro F r ⟨l,e⟩ most H hr hl hm;refine ah hk (args:=[_,_]) (by simp) ?_;unfold xF xG kA kB kF kC kQ kS kT kU kV kc kg kY kZ;simp only at hr hl;simp only[go_sem,zS,↓reduceIte,Za,Zb,Zc,reduceCtorEq,ae,zU,Zf,Zg];refine(ho _ _ _ _ _ hr).mono ?_;rintro x H1 ⟨rfl,rfl⟩
 by_cases c:e=0
 case neg=>
  have e1:(e==0)=ZS:=by simpa using c
  have:bj most (l,e)=([],(l,e)):=by unfold bj;rw[if_pos (by simpa using c)]
  simp only[go_sem,zS,↓reduceIte,Za,Zb,Zc,reduceCtorEq,ae,zU,Zf,Zg,e1,this];exact⟨br.nil _,fun k h=>h.elim,hr,af.refl _ _⟩
 subst c;have hm0:¬(most:Int)<0:=by omega
 simp only[go_sem,zS,↓reduceIte,Za,Zb,Zc,reduceCtorEq,ae,zU,Zf,Zg,hm0];refine(hrf _ _ _ _ _ _ hr).mono ?_;rintro x H2 ⟨rfl,R2,K2⟩;simp only[ZD,if_false]at R2;simp only[go_sem,zS,↓reduceIte,Za,Zb,Zc,reduceCtorEq,ae,zU,Zf,Zg];refine(hn _ _ _ _ _ R2 hl).mono ?_;rintro x H2' ⟨rfl,rfl⟩;have wm:IntKind.u64.wrap (most:Int)=(most:Int):=by rw[Y0];omega
 cases hd:fA ZT 0 l with
 |none=>
  have:bj most (l,0)=([],(l,6)):=by unfold bj;rw[if_neg (by simp),hd]
  rw[tx hd,this];simp only[go_sem,zS,↓reduceIte,Za,Zb,Zc,reduceCtorEq,ae,zU,Zf,Zg];refine(hrf _ _ _ _ _ _ R2).mono ?_;rintro x H3 ⟨rfl,R3,K3⟩;simp only[go_sem,zS,↓reduceIte,Za,Zb,Zc,reduceCtorEq,ae,zU,Zf,Zg]at R3;simp only[go_sem,zS,↓reduceIte,Za,Zb,Zc,reduceCtorEq,ae,zU,Zf,Zg];exact⟨br.nil _,fun k h=>h.elim,R3,K2.trans K3⟩
 |some p=>
  obtain⟨v,q⟩:=p;obtain⟨h1,h2,h3,h4⟩:=tw hd;rw[h1];have hq:(((l.length -q.length:Nat):Int)==0)=ZS:=by simp;omega
  simp only[go_sem,zS,↓reduceIte,Za,Zb,Zc,reduceCtorEq,ae,zU,Zf,Zg,hq];refine(hrf _ _ _ _ _ _ R2).mono ?_;rintro x H3 ⟨rfl,R3,K3⟩;simp only[go_sem,zS,↓reduceIte,Za,Zb,Zc,reduceCtorEq,ae,zU,Zf,Zg]at R3;have hr0:bj most (l,0)=if v>most then([],(l,3))else if v>q.length then([],(l,6))else(q.take v,(q.drop v,0)):=by unfold bj;rw[if_neg (by simp),hd]
  by_cases cv:v>most
  ·have BV:(v:Int)>(most:Int):=by omega
   rw[hr0,if_pos cv];simp only[go_sem,zS,↓reduceIte,Za,Zb,Zc,reduceCtorEq,ae,zU,Zf,Zg,wm,BV];refine(hrf _ _ _ _ _ _ R3).mono ?_;rintro x H4 ⟨rfl,R4,K4⟩;simp only[go_sem,zS,↓reduceIte,Za,Zb,Zc,reduceCtorEq,ae,zU,Zf,Zg]at R4;simp only[go_sem,zS,↓reduceIte,Za,Zb,Zc,reduceCtorEq,ae,zU,Zf,Zg];exact⟨br.nil _,fun k h=>h.elim,R4,(K2.trans K3).trans K4⟩
  ·have BV:¬(v:Int)>(most:Int):=by omega
   have wv:IntKind.i64.wrap (v:Int)=(v:Int):=ZN _ ⟨by omega,by omega⟩;rw[hr0,if_neg cv];simp only[go_sem,zS,↓reduceIte,Za,Zb,Zc,reduceCtorEq,ae,zU,Zf,Zg,wm,BV];refine(hrf _ _ _ _ _ _ R3).mono ?_;rintro x H4 ⟨rfl,R4,K4⟩;simp only[go_sem,zS,↓reduceIte,Za,Zb,Zc,reduceCtorEq,ae,zU,Zf,Zg]at R4;have R4':=R4;obtain⟨v4,B4,S4,f41,f42,f43⟩:=R4';have wq:IntKind.u64.wrap (IntKind.i64.wrap ((l.length:Int) -((l.length -q.length:Nat):Int)))=(q.length:Int):=by
    rw[ZN _ ⟨by omega,by omega⟩,Y0];omega
   simp only[go_sem,zS,↓reduceIte,Za,Zb,Zc,reduceCtorEq,ae,zU,Zf,Zg,B4.cell,S4.aq,S4.len,aM,wq];refine(hrf _ _ _ _ _ _ R4).mono ?_;rintro x H5 ⟨rfl,R5,K5⟩;have K5':=((K2.trans K3).trans K4).trans K5
   by_cases cw:v>q.length
   ·have cw':(v:Int)>(q.length:Int):=by omega
    rw[if_pos cw];simp only[go_sem,zS,↓reduceIte,Za,Zb,Zc,reduceCtorEq,ae,zU,Zf,Zg,cw']at R5;simp only[go_sem,zS,↓reduceIte,Za,Zb,Zc,reduceCtorEq,ae,zU,Zf,Zg,cw'];exact⟨br.nil _,fun k h=>h.elim,R5,K5'⟩
   ·have cw':¬(v:Int)>(q.length:Int):=by omega
    rw[if_neg cw];simp only[go_sem,zS,↓reduceIte,Za,Zb,Zc,reduceCtorEq,ae,zU,Zf,Zg,cw']at R5;simp only[go_sem,zS,↓reduceIte,Za,Zb,Zc,reduceCtorEq,ae,zU,Zf,Zg,cw'];refine(ht _ _ _ _ _ _ R5 (by omega) hl).mono ?_;rintro x H6 ⟨O6,o6,R6,K6⟩;rw[h3]at R6;simp only[go_sem,zS,↓reduceIte,Za,Zb,Zc,reduceCtorEq,ae,zU,Zf,Zg,wv];refine(ht _ _ _ _ _ _ R6 (by omega) (by omega)).mono ?_;rintro x H7 ⟨O7,o7,R7,K7⟩;simp only[go_sem,zS,↓reduceIte,Za,Zb,Zc,reduceCtorEq,ae,zU,Zf,Zg];have k6:=(K5'.trans K6).size;exact⟨O7,fun k h=>by have:=o7 k h;omega,R7,(K5'.trans K6).trans K7⟩
def rj (P:Program) (k:FuncId):Prop:=∀(F:Nat->Prop) (r:Nat) (s:List UInt8×Int) (most:Nat) (H:Hp),jm F H r s.1 s.2->s.1.length<=100000000->most<=1000000000->an P k #[Z7 (ZV ⟨r,0,ZU⟩),Z8 ZY most] H fun x H'=>
 x=.string ⟨(bj most s).1.toArray⟩/\jm F H' r (bj most s).2.1 (bj most s).2.2/\af (fun k=>k=r) H H'
def JQ (hk:ak P k (th V) tj 2) (hb:mY P (V.f 114)):rj P k:=by
 rintro F r s most H hr hl hm;refine ah hk (args:=[_,_]) (by simp) ?_;unfold th tj kA kB kC kU kc kg kY;simp only[go_sem,zS,↓reduceIte,Za,Zb,Zc,reduceCtorEq,ae,zU,Zf,Zg];refine(hb _ _ _ _ _ hr hl hm).mono ?_;rintro x H1 ⟨O1,o1,R1,K1⟩;have b1:=O1.sl.bO;simp only[go_sem,zS,↓reduceIte,Za,Zb,Zc,reduceCtorEq,ae,zU,Zf,Zg,b1,toBA_w8];exact⟨jC b1,R1,K1⟩
end Go.Mg
