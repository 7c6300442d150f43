/- Lemmas of ours. No conditions. -/
import Derived.Test.YtkfikjdbdfekfabDoorMgOwn
import Derived.Test.YtkfikjdbdfekfabDoorMgKp
open Nat renaming reduceEqDiff→Za,reduceAdd→Zb,reduceMul→Zc
set_option linter.all false
set_option maxRecDepth 100000
namespace Go.Mg
open Go Go.RowKit
def gJ (ι:bh):S:=
 kY [kC 2 (kZ)] (.seq (kY [kA 3 0,kV 4 (.m (.eqn .sl false (.t 3)))] (.ite (.v 4) (kY [kC 2 (kZ)] .ret) .skip)) (kY [kc 5 (.dS (ι.t 19) 1 0 []),kA 6 0,kc 7 (.app false (ι.t 19) 1 1 #[.int .u8 0] (.t 5) (.t 6)),kB 2 7] .ret))
def gK:List RV:=[.t 2]
def dB (ι:bh):S:=
 kY [kA 4 0,kL 5 4,kU 6 (.ar .sub .i64 (.t 5) (.c (.int .i64 1))),kC 2 (.int .i64 0),kB 3 6] (.blk 0 (.loop (.seq (kY [kA 7 2,kA 8 3,kV 9 (.cm .lss .i64 (.t 7) (.t 8))] (.ite (.v 9) .skip (.exit 0))) (.seq (.blk 1 (.dr (kW 14 (.mv (.v 0)) (kW 15 (.mv (.v 2)) (kW 16 (.mv (.v 0)) (kW 17 (.mv (.v 3)) (kW 18 (.mv (.v 0)) (kW 19 (.mv (.v 3)) (kW 20 (.is 1 (.t 18) (.t 19)) (kW 22 (.mv (.v 0)) (kW 23 (.mv (.v 2)) (kW 24 (.is 1 (.t 22) (.t 23)) (ka 21 (.rd (.ld (.t 20))) (ka 25 (.rd (.ld (.t 24))) (kW 26 (.is 1 (.t 14) (.t 15)) (kb (.st (.t 26) (.t 21)) (kW 27 (.is 1 (.t 16) (.t 17)) (kb (.st (.t 27) (.t 25)) .done .wnil)) .wnil)) .wnil) (ka 25 (.rd (.ld (.t 24))) (ka 21 (.rd (.ld (.t 20))) (kW 26 (.is 1 (.t 14) (.t 15)) (kb (.st (.t 26) (.t 21)) (kW 27 (.is 1 (.t 16) (.t 17)) (kb (.st (.t 27) (.t 25)) .done .wnil)) .wnil)) .wnil) .wnil)))))))))))))) (.reg [kA 10 2,kU 11 (.ar .add .i64 (.t 10) (.c (.int .i64 1))),kA 12 3,kU 13 (.ar .sub .i64 (.t 12) (.c (.int .i64 1))),kB 2 11,kB 3 13])))))
def dC:List RV:=[]
def fg (ι:bh):S:=
 kY [kC 2 (kZ)] (kY [kA 4 0,kU 5 (.bt .and .u64 (.t 4) (.c (.int .u64 127))),kU 6 (.ii .u8 (.t 5)),kc 7 (.dS (ι.t 19) 1 1 [.t 6]),kB 3 7] (.seq (kY [kA 8 0,kU 9 (.sh .shr .u64 (.t 8) (.c (.int .u64 7))),kB 0 9] (.blk 0 (.loop (.seq (kY [kA 10 0,kV 11 (.cm .gtr .u64 (.t 10) (.c (.int .u64 0)))] (.ite (.v 11) .skip (.exit 0))) (.seq (.blk 1 (.reg [kA 14 3,kA 15 0,kU 16 (.bt .and .u64 (.t 15) (.c (.int .u64 127))),kU 17 (.ii .u8 (.t 16)),kU 18 (.bt .or .u8 (.t 17) (.c (.int .u8 128))),kc 19 (.dS (ι.t 19) 1 1 [.t 18]),kc 20 (.app false (ι.t 19) 1 1 #[.int .u8 0] (.t 14) (.t 19)),kB 3 20])) (.reg [kA 12 0,kU 13 (.sh .shr .u64 (.t 12) (.c (.int .u64 7))),kB 0 13])))))) (kY [kA 21 3,kc 22 (kg (ι.f 52) [.t 21])] (kY [kA 23 3,kB 2 23] .ret))))
def fh:List RV:=[.t 2]
def jr (ι:bh):S:=
 kY [kC 0 (.pointer .none)] (kY [kU 1 (.m (.bld #[kZ] [])),kc 2 (.box (ι.t 54) (.t 1)),kB 0 2] .ret)
def js:List RV:=[.t 0]
def jt (ι:bh):S:=
 kY [kA 4 0,kV 5 (.m (.eqn .ptr true (.t 4)))] (.ite (.v 5) (.reg [kA 6 0,kA 7 0,kU 8 (.nil (.t 7)),kU 9 (.fa 0 (.t 8)),kD 10 9,kA 11 1,kc 12 (.app false (ι.t 19) 1 1 #[.int .u8 0] (.t 10) (.t 11)),kU 13 (.nil (.t 6)),kU 14 (.fa 0 (.t 13)),kf (.st (.t 14) (.t 12))]) .skip)
def ju:List RV:=[]
def gM (ι:bh):S:=
 .reg [kA 4 0,kA 5 1,kc 6 (kg (ι.f 53) [.t 5]),kc 7 (kg (ι.f 56) [.t 4,.t 6])]
def gN:List RV:=[]
def fj (ι:bh):S:=
 kY [kA 4 0,kA 5 1,kL 6 5,kU 7 (.ii .u64 (.t 6)),kc 8 (kg (ι.f 57) [.t 4,.t 7])] (.reg [kA 9 0,kA 10 1,kc 11 (kg (ι.f 56) [.t 9,.t 10])])
def fk:List RV:=[]
def dD (ι:bh):S:=
 .reg [kA 4 0,kA 5 1,kc 6 (.s2b (ι.t 19) (.t 5)),kc 7 (kg (ι.f 58) [.t 4,.t 6])]
def dE:List RV:=[]
def jv (ι:bh):S:=
 kY [kC 2 (kZ)] (.seq (kY [kA 3 0,kV 4 (.m (.eqn .ptr false (.t 3)))] (.ite (.v 4) (kY [kC 2 (kZ)] .ret) .skip)) (kY [kA 5 0,kU 6 (.nil (.t 5)),kU 7 (.fa 0 (.t 6)),kD 8 7,kc 9 (kg (ι.f 51) [.t 8]),kB 2 9] .ret))
def jw:List RV:=[.t 2]
def nj (u:Nat):List UInt8:=if h:u=0 then[]else UInt8.ofNat (u % 128+128)::nj (u/128)
termination_by u
decreasing_by omega
def sH (v:Nat):List UInt8:=UInt8.ofNat (v % 128)::nj (v/128)
def gO (v:Nat):List UInt8:=(sH v).reverse
def bd (l:List UInt8):List UInt8:=gO l.length++l
theorem j8:nj 0=[]:=by rw[nj];simp
theorem gP {u:Nat} (h:u≠0):nj u=UInt8.ofNat (u % 128+128)::nj (u/128):=by rw[nj];simp[h]
theorem j9:∀(k u:Nat),u<128^k->(nj u).length<=k
 |0,u,h=>by
  have:u=0:=by simpa using h
  subst this;rw[j8];simp
 |k+1,u,h=>by
  by_cases hu:u=0
  ·subst hu;rw[j8];simp
  ·rw[gP hu];have:=j9 k (u/128) (by rw[Nat.pow_succ]at h;omega);simp only[List.length_cons];omega
theorem db (v:Nat) (h:v<18446744073709551616):(gO v).length<=11:=by
 have:=j9 10 (v/128) (by omega);simp only[gO,sH,List.length_reverse,List.length_cons];omega
def bL (P:Program) (k:FuncId):Prop:=∀(l:List UInt8) (v:Value) (H:Hp),aC H v (w8 l)->l.length<=100000000->ai P k #[v] H fun r H'=>ba H' r (w8 l)/\(∀k,bc r k->H.size<=k)/\ae (fun _=>False) H H'
variable {P:Program} {ι:bh} {k:FuncId} {l x:List UInt8} {i w:Nat} {F:Nat->Prop} {H:Hp}
theorem mG (hk:ah P k (gJ ι) gK 1):bL P k:=by
 intro l v H hv hl;refine ag hk (args:=[_]) (by simp) ?_;unfold gJ gK kA kB kC kV kc kY kZ;obtain⟨a,c,rfl,hc⟩:=hv.mk
 cases a with
 |none=>
  have vz:l=[]:=by
   rcases hv with⟨_,_,_,h⟩|⟨b,o,c',h,e,_⟩
   ·simpa[w8]using h
   ·simp at e
  subst vz;simp only[go_sem,zS,↓reduceIte,Za,Zb,Zc,reduceCtorEq,aa];exact⟨ba.nil _,fun k h=>h.elim,ae.refl _ _⟩
 |some p=>
  simp only[go_sem,zS,↓reduceIte,Za,Zb,Zc,reduceCtorEq];refine dw fun H1 b1 e1 z1 B1 K1=>?_;have k1:=K1.size;simp only[go_sem,zS,↓reduceIte,Za,Zb,Zc,reduceCtorEq,aa];refine ff H.size (l:=[]) (m:=l) (ba.new B1 rfl rfl) (fun k (h:k=b1)=>by omega) (by omega) (hv.ax K1 (by simp)) rfl (by simp;omega) fun v2 H2 O2 o2 K2=>?_;simp only[go_sem,zS,↓reduceIte,Za,Zb,Zc,reduceCtorEq,aa];exact⟨O2,o2,K1.mF K2 (by omega)⟩
def cG (l:List UInt8) (i:Nat) (x:List UInt8):Prop:=x.length=l.length/\∀j,j<l.length->x.getD j 0=if j<i\/l.length<=i+j then l.getD (l.length -1 -j) 0 else l.getD j 0
theorem cG.zero (l:List UInt8):cG l 0 l:=⟨rfl,fun j hj=>by rw[if_neg (by omega)]⟩
theorem fW (x:List UInt8) (i j:Nat) (y:UInt8) (h:i<x.length):(x.set i y).getD j 0=if j=i then y else x.getD j 0:=by
 by_cases e:j=i
 ·subst e;rw[if_pos rfl,List.getD_eq_getElem?_getD,List.getElem?_set_self h];rfl
 ·rw[if_neg e,List.getD_eq_getElem?_getD,List.getElem?_set_ne (Ne.symm e),<-List.getD_eq_getElem?_getD]
theorem cG.step (h:cG l i x) (hi:2*i+1<l.length):cG l (i+1) ((x.set i (x.getD (l.length -1 -i) 0)).set (l.length -1 -i) (x.getD i 0)):=by
 obtain⟨h1,h2⟩:=h;refine⟨by simp[h1],fun j hj=>?_⟩;have q1:x.getD i 0=l.getD i 0:=by rw[h2 i (by omega),if_neg (by omega)]
 have q2:x.getD (l.length -1 -i) 0=l.getD (l.length -1 -i) 0:=by rw[h2 (l.length -1 -i) (by omega),if_neg (by omega)]
 rw[q1,q2,fW _ _ _ _ (by simp;omega),fW _ _ _ _ (by omega),h2 j hj]
 by_cases e1:j=l.length -1 -i
 ·rw[if_pos e1,if_pos (by omega)];congr 1;omega
 ·rw[if_neg e1]
  by_cases e2:j=i
  ·rw[if_pos e2,if_pos (by omega)];congr 1;omega
  ·rw[if_neg e2]
   by_cases e3:j<i\/l.length<=i+j
   ·rw[if_pos e3,if_pos (by omega)]
   ·rw[if_neg e3,if_neg (by omega)]
theorem cG.all (h:cG l i x) (hi:l.length<=2*i+1):x=l.reverse:=by
 obtain⟨h1,h2⟩:=h;apply List.ext_getElem (by simp[h1]);intro j g1 g2;have:=h2 j (by omega);have e1:x.getD j 0=x[j]:=by simp[g1]
 have e2:l.reverse[j]=l.getD (l.length -1 -j) 0:=by
  rw[List.getElem_reverse];simp[show l.length -1 -j<l.length by omega]
 rw[<-e1,e2,this]
 split
 ·rfl
 ·congr 1;omega
def kh (P:Program) (k:FuncId):Prop:=∀(l:List UInt8) (v:Value) (H:Hp),ba H v (w8 l)->l.length<=100000000->ai P k #[v] H fun r H'=>r=.tuple #[]/\ba H' v (w8 l.reverse)/\ae (bc v) H H'
theorem jx (hk:ah P k (dB ι) dC 1):kh P k:=by
 intro l v H hv hl;refine ag hk (args:=[_]) (by simp) ?_;unfold dB dC kA kB kC kL kU kV kW ka kb kY;simp(disch:=omega)only[go_sem,zS,↓reduceIte,Za,Zb,Zc,reduceCtorEq,aa,hv.sl.aT,hv.sl.len,af,IntWalk.i64_in];refine aD [9,2,3] rfl (fun n f H'=>∃i x,2*i<=l.length+1/\n=l.length -i/\f 2=.int .i64 i/\f 3=.int .i64 ((l.length:Int) -1 -i)/\cG l i x/\ba H' v (w8 x)/\ae (bc v) H H') l.length
  ⟨0,l,by omega,by omega,rfl,by simp only[go_sem,zS,↓reduceIte,Za,Zb,Zc,reduceCtorEq,aa];simp,cG.zero l,hv,ae.refl _ _⟩ ?_
 rintro n g H1 ⟨i,x,hi,rfl,uL,pc,hR,hO,K1⟩;simp only[go_sem,zS,↓reduceIte,Za,Zb,Zc,reduceCtorEq,aa]at uL pc;simp only[go_sem,zS,↓reduceIte,Za,Zb,Zc,reduceCtorEq,aa,uL,pc];refine au (fun hlt=>?_) (fun o8=>?_)
 ·have ki:2*i+1<l.length:=by omega
  have hxl:=hR.1;obtain⟨b,c,L,rfl,h1,h2,hB,h3,hg⟩:=hO.some (by intro e;have h:=congrArg List.length e;rw[af,List.length_nil]at h;omega);rw[af]at h1 h3 hg;have ej:((l.length:Int) -1 -i)=((l.length -1 -i:Nat):Int):=by omega
  have gi:L[i]?=some (.int .u8 (x.getD i 0).toNat):=by rw[hg i (by omega),bR _ _ (by omega)]
  have gj:L[l.length -1 -i]?=some (.int .u8 (x.getD (l.length -1 -i) 0).toNat):=by rw[hg _ (by omega),bR _ _ (by omega)]
  have B2:=hB.al i (.int .u8 (x.getD (l.length -1 -i) 0).toNat);have g2:(L.set i (.int .u8 (x.getD (l.length -1 -i) 0).toNat))[l.length -1 -i]?=some (.int .u8 (x.getD (l.length -1 -i) 0).toNat):=by
   rw[List.getElem?_set_ne (by omega)];exact gj
  refine eM (fun k=>k=b) ?_;simp(disch:=omega)only[go_sem,zS,↓reduceIte,Za,Zb,Zc,reduceCtorEq,aa,uL,pc,ej,hB.cell,hB.cE,gi,gj,B2.cell,B2.cE,g2,aq];rw[af];have B3:=B2.al (l.length -1 -i) (.int .u8 (x.getD i 0).toNat);have xR:=qa (i:=i) (v:=.int .u8 (x.getD (l.length -1 -i) 0).toNat) hB (l:=w8 x) (by rw[af];exact h1) h2 (by rw[af];exact h3) (by rw[af];omega);have xd:=ba.bl (n:=x.length) (c:=c) B3 (l:=w8 ((x.set i (x.getD (l.length -1 -i) 0)).set (l.length -1 -i) (x.getD i 0))) (by simp[af]) h1 (by simpa using h2) (by rw[List.take_set,List.take_set,h3,eQ,eQ]);have KA:ae (fun k=>k=b) H1 (al H1 ⟨b,i,none⟩ (.int .u8 (x.getD (l.length -1 -i) 0).toNat)):=(ae.refl _ _).al _ (.inl rfl);have e1:IntKind.i64.wrap ((i:Int)+1)=((i+1:Nat):Int):=by rw[IntWalk.i64_in _ ⟨by omega,by omega⟩];simp
  have e2:IntKind.i64.wrap (((l.length -1 -i:Nat):Int) -1)=(l.length:Int) -1 -((i+1:Nat):Int):=by rw[IntWalk.i64_in _ ⟨by omega,by omega⟩];omega
  rw[e1,e2];have fin:∃m,m<l.length -i/\∃rK vB,2*rK<=l.length+1/\m=l.length -rK/\Value.int IntKind.i64 ((i+1:Nat):Int)=Value.int IntKind.i64 ↑rK/\Value.int IntKind.i64 ((l.length:Int) -1 -((i+1:Nat):Int))=Value.int IntKind.i64 (↑l.length -1 -↑rK)/\cG l rK vB∧
    ba (al (al H1 ⟨b,i,none⟩ (.int .u8 (x.getD (l.length -1 -i) 0).toNat)) ⟨b,l.length -1 -i,none⟩ (.int .u8 (x.getD i 0).toNat)) (.slice (some ⟨b,0,none⟩) x.length c) (w8 vB)∧
    ae (bc (.slice (some ⟨b,0,none⟩) x.length c)) H (al (al H1 ⟨b,i,none⟩ (.int .u8 (x.getD (l.length -1 -i) 0).toNat)) ⟨b,l.length -1 -i,none⟩ (.int .u8 (x.getD i 0).toNat)):=by
   rw[af]at K1;exact⟨l.length -(i+1),by omega,i+1,_,by omega,rfl,rfl,rfl,hR.step ki,xd,(K1.al (p:=⟨b,i,none⟩) _ (.inl rfl)).al (p:=⟨b,l.length -1 -i,none⟩) _ (.inl rfl)⟩
  have KB:=(ae.refl (fun k=>k=b) (al H1 ⟨b,i,none⟩ (.int .u8 (x.getD (l.length -1 -i) 0).toNat))).al (p:=⟨b,l.length -1 -i,none⟩) (.int .u8 (x.getD i 0).toNat) (.inl rfl);have K0:ae (fun k=>k=b) H1 H1:=ae.refl _ _;refine⟨by omega,by omega,⟨K0,K0,by omega,KA,by omega,KB,fin⟩,⟨K0,K0,by omega,KA,by omega,KB,fin⟩⟩
 ·have:=hR.all (by omega);subst this;exact⟨hO,K1⟩
theorem mH (v:Nat) (h:v<18446744073709551616):bits .and .u64 (v:Int) 127=((v % 128:Nat):Int):=by
 have e:(v:Int)=((UInt64.ofNat v).toNat:Int):=by rw[UInt64.toNat_ofNat'];omega
 have e2:(127:Int)=((127:UInt64).toNat:Int):=rfl;rw[e,e2,iG,UInt64.toNat_and,UInt64.toNat_ofNat'];have:(127:UInt64).toNat=2^7 -1:=rfl;rw[this,Nat.and_two_pow_sub_one_eq_mod];omega
theorem rL (x:Nat) (h:x<128):bits .or .u8 (x:Int) 128=((x+128:Nat):Int):=by
 have:∀m:Fin 128,bits .or .u8 ((m.val:Nat):Int) 128=((m.val+128:Nat):Int):=by decide+kernel
 exact this ⟨x,h⟩
theorem pd (n:Nat) (h:n<256):(n:Int)=((UInt8.ofNat n).toNat:Int):=by rw[UInt8.toNat_ofNat'];omega
def kj (P:Program) (k:FuncId):Prop:=∀(v:Nat) (H:Hp),v<18446744073709551616->ai P k #[.int .u64 v] H fun r H'=>ba H' r (w8 (gO v))/\(∀k,bc r k->H.size<=k)/\ae (fun _=>False) H H'
theorem lj (hk:ah P k (fg ι) fh 1) (hr:kh P (ι.f 52)):kj P k:=by
 intro v H hv;refine ag hk (args:=[_]) (by simp) ?_;unfold fg fh kA kB kC kU kV kc kg kY kZ;have a1:=mH v hv;have w1:∀m:Nat,m<256->IntKind.u8.wrap (m:Int)=(m:Int):=fun m hm=>by rw[IntKind.wrap_u8];omega
 have sh:∀u:Nat,(u:Int)/2^7=((u/128:Nat):Int):=fun u=>by
  have:(2^7:Int)=128:=by decide
  rw[this];omega
 simp(disch:=omega)only[go_sem,zS,↓reduceIte,Za,Zb,Zc,reduceCtorEq,a1,w1];refine dw fun H1 b1 e1 z1 B1 K1=>?_;have k1:=K1.size;have B1:Bl H1 b1 (w8 [UInt8.ofNat (v % 128)]):=by
  have e:=pd (v % 128) (by omega);simp only[w8,List.map_cons,List.map_nil,<-e];exact B1
 simp only[go_sem,zS,↓reduceIte,Za,Zb,Zc,reduceCtorEq,aa,sh];refine And.intro (by omega) ?_;refine aD [11,3,0] rfl (fun n f H'=>∃(u:Nat) (out:List UInt8),n=u/\u<18446744073709551616/\f 0=.int .u64 u/\ba H' (f 3) (w8 out)/\(∀k,bc (f 3) k->H.size<=k)/\out++nj u=sH v/\ae (fun _=>False) H H') (v/128)
  ⟨v/128,[UInt8.ofNat (v % 128)],rfl,by omega,rfl,ba.new B1 (by simp[w8]) rfl,fun k (h:k=b1)=>by omega,rfl,K1⟩ ?_
 rintro n g H2 ⟨u,out,rfl,hu,sI,O2,o2,ho,K2⟩;have xS:out.length<=11:=by
  have:=db v hv;simp only[gO,List.length_reverse,<-ho,List.length_append]at this;omega
 simp only[go_sem,zS,↓reduceIte,Za,Zb,Zc,reduceCtorEq,aa]at sI O2 o2;simp only[go_sem,zS,↓reduceIte,Za,Zb,Zc,reduceCtorEq,aa,sI];refine au (fun hlt=>?_) (fun o8=>?_)
 ·have uM:n≠0:=by omega
  have a2:=mH n hu;have o1:=rL (n % 128) (by omega);simp(disch:=omega)only[go_sem,zS,↓reduceIte,Za,Zb,Zc,reduceCtorEq,aa,sI,a2,w1,o1,sh];generalize hA:Array.push H2 _=H3;have B3:Bl H3 H2.size (w8 [UInt8.ofNat (n % 128+128)]):=by
   have e:=pd (n % 128+128) (by omega);rw[<-hA];simp only[w8,List.map_cons,List.map_nil,<-e];exact Bl.eL _ _ _
  have K3:ae (fun _=>False) H2 H3:=by rw[<-hA];exact(ae.refl _ _).push _
  have ni:=K2.trans K3;refine ff H.size (l:=out) (m:=[UInt8.ofNat (n % 128+128)]) (O2.ax K3 (by simp)) o2 (by have:=ni.size;omega) (aC.bl (l:=w8 [UInt8.ofNat (n % 128+128)]) B3 0 1 1 (by omega) (by simp[w8])) rfl (by simp;omega) fun v4 H4 O4 o4 K4=>?_;simp(disch:=omega)only[go_sem,zS,↓reduceIte,Za,Zb,Zc,reduceCtorEq,aa,sI,sh];refine And.intro (by omega) ?_;refine⟨n/128,by omega,n/128,_,rfl,by omega,rfl,O4,o4,?_,ni.mF K4 (by omega)⟩;rw[List.append_assoc,List.singleton_append,<-gP uM];exact ho
 ·have uM:n=0:=by omega
  subst uM;rw[j8,List.append_nil]at ho;subst ho;refine(hr _ _ _ O2 (by omega)).mono ?_;rintro r H3 ⟨rfl,O3,K3⟩;simp only[go_sem,zS,↓reduceIte,Za,Zb,Zc,reduceCtorEq,aa];exact⟨O3,o2,K2.trans' K3 (fun i hi e=>by have:=o2 i e;omega)⟩
def grow (F:Nat->Prop) (H H':Hp):Nat->Prop:=fun k=>F k\/(H.size<=k/\k<H'.size)
def gQ (F:Nat->Prop) (H:Hp) (w:Nat) (l:List UInt8):Prop:=∃v,Bl H w [v]/\ba H v (w8 l)/\¬bc v w/\F w/\(∀k,bc v k->F k)/\∀k,F k->k<H.size
theorem gQ.ax {W:Nat->Prop} {H':Hp} (h:gQ F H w l) (hk:ae W H H') (hw:∀k,F k->¬W k):gQ F H' w l:=by
 obtain⟨v,h1,h2,h3,h4,h5,h6⟩:=h;exact⟨v,hk.bl h1 (hw _ h4),h2.ax hk (fun k hb=>hw k (h5 k hb)),h3,h4,h5,fun k hf=>Nat.lt_of_lt_of_le (h6 k hf) hk.size⟩
theorem gQ.bound (h:gQ F H w l):∀k,F k->k<H.size:=let⟨_,_,_,_,_,_,h6⟩:=h;h6
def dc (P:Program) (k:FuncId):Prop:=∀(F:Nat->Prop) (w:Nat) (l m:List UInt8) (v:Value) (H:Hp),gQ F H w l->aC H v (w8 m)->l.length+m.length<=100000000→
 ai P k #[.pointer (some ⟨w,0,none⟩),v] H fun r H'=>r=.tuple #[]/\gQ (grow F H H') H' w (l++m)/\ae F H H'
theorem om (hk:ah P k (jt ι) ju 2):dc P k:=by
 intro F w l m v H hw hv xT;refine ag hk (args:=[_,_]) (by simp) ?_;unfold jt ju kA kD kU kV kc kf kY;obtain⟨u,hB,hO,hn,uN,uO,vC⟩:=hw;simp only[go_sem,zS,↓reduceIte,Za,Zb,Zc,reduceCtorEq,aa,hB.cell];refine fV hO hv rfl (by omega) fun v1 H1 O1 K1 o1=>?_;have B1:=K1.bl hB hn;have xU:=hB.lt;have h1:=K1.size;have n1:¬bc v1 w:=fun h=>by rcases o1 w h with h|h;exact hn h;omega
 obtain⟨a1,m1,c1,rfl⟩:=O1.shape;have B2:=B1.al 0 (.slice a1 m1 c1);simp only[go_sem,zS,↓reduceIte,Za,Zb,Zc,reduceCtorEq,aa,B1.cell,B1.cE];refine⟨⟨_,B2,O1.ax ((ae.refl (fun k=>k=w) H1).al (p:=⟨w,0,none⟩) (.slice a1 m1 c1) (.inl rfl)) (fun k h e=>n1 (e▸h)),n1,.inl uN,fun k h=>?_,fun k h=>?_⟩,(K1.mono fun k _ h=>uO k h).al (p:=⟨w,0,none⟩) _ (.inl uN)⟩
 ·rcases o1 k h with h'|h'
  ·exact .inl (uO k h')
  ·exact .inr ⟨h',by rw[aX];exact O1.nS h⟩
 ·have hz:=aX H1 ⟨w,0,none⟩ (.slice a1 m1 c1);rw[hz];rcases h with h|h
  ·have:=vC k h;omega
  ·rw[hz]at h;exact h.2
def dd (P:Program) (k:FuncId):Prop:=∀H,ai P k #[] H fun r H'=>r=.pointer (some ⟨H.size,0,none⟩)/\gQ (fun k=>k=H.size) H' H.size []/\ae (fun _=>False) H H'
theorem oo (hk:ah P k (jr ι) js 0):dd P k:=by
 intro H;refine ag hk (args:=[]) (by simp) ?_;unfold jr js kB kC kU kc kY kZ;simp only[go_sem,zS,↓reduceIte,Za,Zb,Zc,reduceCtorEq,bN,bW];refine aR fun H1 b1 e1 z1 B1 K1=>?_;subst e1;simp only[go_sem,zS,↓reduceIte,Za,Zb,Zc,reduceCtorEq,aa];exact⟨⟨_,B1,ba.nil _,fun h=>h.elim,rfl,fun k h=>h.elim,fun k h=>by omega⟩,K1⟩
def fX (P:Program) (k:FuncId):Prop:=∀(F:Nat->Prop) (w:Nat) (l:List UInt8) (v:Nat) (H:Hp),gQ F H w l->v<18446744073709551616->l.length<=90000000→
 ai P k #[.pointer (some ⟨w,0,none⟩),.int .u64 v] H fun r H'=>r=.tuple #[]/\gQ (grow F H H') H' w (l++gO v)/\ae F H H'
theorem gQ.mono {G:Nat->Prop} (h:gQ F H w l) (hf:∀k,F k->G k) (hg:∀k,G k->k<H.size):gQ G H w l:=by
 obtain⟨v,h1,h2,h3,h4,h5,h6⟩:=h;exact⟨v,h1,h2,h3,hf _ h4,fun k hk=>hf k (h5 k hk),hg⟩
theorem mI (hk:ah P k (gM ι) gN 2) (hg:kj P (ι.f 53)) (hr:dc P (ι.f 56)):fX P k:=by
 intro F w l v H hw hv hl;refine ag hk (args:=[_,_]) (by simp) ?_;unfold gM gN kA kc kg;simp only[go_sem,zS,↓reduceIte,Za,Zb,Zc,reduceCtorEq,aa];refine(hg _ _ hv).mono ?_;rintro r1 H1 ⟨O1,o1,K1⟩;have:=db v hv;have k1:=K1.size;have hb:=hw.bound;simp only[go_sem,zS,↓reduceIte,Za,Zb,Zc,reduceCtorEq,aa];refine(hr _ _ _ _ _ _ (hw.ax K1 (by simp)) O1.sl (by omega)).mono ?_;rintro r H2 ⟨rfl,W2,K2⟩;simp only[go_sem,zS,↓reduceIte,Za,Zb,Zc,reduceCtorEq,aa];refine⟨W2.mono (fun k h=>?_) (fun k h=>?_),K1.any.trans K2⟩
 ·rcases h with h|h
  ·exact .inl h
  ·exact .inr ⟨by omega,h.2⟩
 ·have:=K2.size;rcases h with h|h
  ·have:=hb k h;omega
  ·exact h.2
def bB (P:Program) (k:FuncId):Prop:=∀(F:Nat->Prop) (w:Nat) (l m:List UInt8) (v:Value) (H:Hp),gQ F H w l->aC H v (w8 m)->(∀k,cQ v k->¬F k)->l.length+m.length<=80000000→
 ai P k #[.pointer (some ⟨w,0,none⟩),v] H fun r H'=>r=.tuple #[]/\gQ (grow F H H') H' w (l++bd m)/\ae F H H'
theorem lk (hk:ah P k (fj ι) fk 2) (hu:fX P (ι.f 57)) (hr:dc P (ι.f 56)):bB P k:=by
 intro F w l m v H hw hv xe hl;refine ag hk (args:=[_,_]) (by simp) ?_;unfold fj fk kA kL kU kc kg kY;have w6:IntKind.u64.wrap (m.length:Int)=(m.length:Int):=by rw[IntKind.wrap_u64];omega
 simp only[go_sem,zS,↓reduceIte,Za,Zb,Zc,reduceCtorEq,aa,hv.aT,hv.len,af,w6];refine(hu _ _ _ _ _ hw (by omega) (by omega)).mono ?_;rintro r1 H1 ⟨rfl,W1,K1⟩;have k1:=K1.size;have hb:=hw.bound;have:=db m.length (by omega);simp only[go_sem,zS,↓reduceIte,Za,Zb,Zc,reduceCtorEq,aa];refine(hr _ _ _ _ _ _ W1 (hv.ax K1 xe) (by rw[List.length_append];omega)).mono ?_;rintro r H2 ⟨rfl,W2,K2⟩;have k2:=K2.size;simp only[go_sem,zS,↓reduceIte,Za,Zb,Zc,reduceCtorEq,aa];rw[List.append_assoc]at W2;refine⟨W2.mono (fun k h=>?_) (fun k h=>?_),K1.trans' K2 (fun i hi h=>?_)⟩
 ·rcases h with(h|h)|h
  ·exact .inl h
  ·exact .inr ⟨h.1,by omega⟩
  ·exact .inr ⟨by omega,h.2⟩
 ·rcases h with h|h
  ·have:=hb k h;omega
  ·exact h.2
 ·rcases h with h|h
  ·exact h
  ·omega
def bH (P:Program) (k:FuncId):Prop:=∀(F:Nat->Prop) (w:Nat) (l m:List UInt8) (H:Hp),gQ F H w l->l.length+m.length<=80000000→
 ai P k #[.pointer (some ⟨w,0,none⟩),.string ⟨m.toArray⟩] H fun r H'=>r=.tuple #[]/\gQ (grow F H H') H' w (l++bd m)/\ae F H H'
theorem oq (H:Hp) (m:List UInt8) (T:TypeId) (c:Nat) (hc:m.length<=c):ae (fun _=>False) H (H.push (.cells (byteCells ⟨m.toArray⟩++Array.replicate (c -m.length) (.int .u8 0)) T (c,c+1)))∧
  aC (H.push (.cells (byteCells ⟨m.toArray⟩++Array.replicate (c -m.length) (.int .u8 0)) T (c,c+1))) (.slice (some ⟨H.size,0,none⟩) m.length c) (w8 m):=by
 have vD:(byteCells ⟨m.toArray⟩).toList=w8 m:=by simp[byteCells,w8]
 refine⟨(ae.refl _ _).push _,?_⟩;have:=aC.at_ (H:=H.push (.cells (byteCells ⟨m.toArray⟩++Array.replicate (c -m.length) (.int .u8 0)) T (c,c+1))) (b:=H.size) (o:=0) (c:=c) (l:=w8 m) (C:=byteCells ⟨m.toArray⟩++Array.replicate (c -m.length) (.int .u8 0)) (T:=T) (z:=(c,c+1)) (by rw[af];exact hc) (by simp) (by
  rw[af,Array.size_append];have:(byteCells ⟨m.toArray⟩).size=m.length:=by rw[<-Array.length_toList,vD,af]
  omega) (by
  rw[Array.toList_append,vD,List.drop_zero,List.take_left' rfl])
 rwa [af]at this
theorem jy (hk:ah P k (dD ι) dE 2) (hb:bB P (ι.f 58)):bH P k:=by
 intro F w l m H hw hl;refine ag hk (args:=[_,_]) (by simp) ?_;unfold dD dE kA kc kg;simp only[go_sem,zS,↓reduceIte,Za,Zb,Zc,reduceCtorEq,aa];intro c hc;have hc:m.length<=c:=hc;obtain⟨K1,S1⟩:=oq H m (ι.t 19) c hc;generalize Array.push H _=H1 at*;have k1:=K1.size;have hbd:=hw.bound;refine(hb _ _ _ _ _ _ (hw.ax K1 (by simp)) S1 (fun k h hF=>?_) hl).mono ?_
 ·have h:=h.1;have:=hbd k hF;simp only[]at h;omega
 rintro r H2 ⟨rfl,W2,K2⟩;have k2:=K2.size;simp only[go_sem,zS,↓reduceIte,Za,Zb,Zc,reduceCtorEq,aa];refine⟨W2.mono (fun k h=>?_) (fun k h=>?_),K1.any.trans K2⟩
 ·rcases h with h|h
  ·exact .inl h
  ·exact .inr ⟨by omega,h.2⟩
 ·rcases h with h|h
  ·have:=hbd k h;omega
  ·exact h.2
def de (P:Program) (k:FuncId):Prop:=∀(F:Nat->Prop) (w:Nat) (l:List UInt8) (H:Hp),gQ F H w l->l.length<=100000000→
 ai P k #[.pointer (some ⟨w,0,none⟩)] H fun r H'=>ba H' r (w8 l)/\(∀k,bc r k->H.size<=k)/\ae (fun _=>False) H H'
theorem ot (hk:ah P k (jv ι) jw 1) (hc:bL P (ι.f 51)):de P k:=by
 intro F w l H hw hl;refine ag hk (args:=[_]) (by simp) ?_;unfold jv jw kA kB kC kD kU kV kc kg kY kZ;obtain⟨v,hB,hO,hn,uN,uO,vC⟩:=hw;simp only[go_sem,zS,↓reduceIte,Za,Zb,Zc,reduceCtorEq,aa,hB.cell];refine(hc _ _ _ hO.sl hl).mono ?_;rintro r H1 ⟨O1,o1,K1⟩;simp only[go_sem,zS,↓reduceIte,Za,Zb,Zc,reduceCtorEq,aa];exact⟨O1,o1,K1⟩
end Go.Mg
