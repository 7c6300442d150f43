/- Lemmas of ours. No conditions. -/
import Derived.Test.YtoclemmcphgikaaGreatDoorMgVK
import Derived.Test.YtoclemmcphgikaaGreatDoorMgW2
open Bool renaming false→ZS,true→ZT
open Decidable renaming decide→ZQ
open Go renaming Value→ZR
open Go.IntKind renaming i64→ZY,u64→ZW,u8→ZX
open Go.Value renaming agg→Z0,bool→Z5,int→Z8,pointer→Z7,slice→Z6,tuple→ZZ
open Option renaming none→ZU,some→ZV
open Bool renaming false_and→Yy,not_false→ZB,not_true→ZE,true_and→X0
open Classical renaming byContradiction→Zn
open Go.IntKind renaming wrap_u64→Y0
open Go.IntWalk renaming i64_in→ZN
open Int renaming ofNat_tdiv→XS
open List renaming getD_eq_getElem?_getD→ZP,getElem?_eq_getElem→ZO,getElem_mem→ZL,getLast_eq_getElem→Yr,length→Y8,length_nil→Zx,replicate→ZM,take_length→ZI
open Nat renaming lt_of_lt_of_le→Xv,mod_eq_of_lt→YF,mul_le_mul→WQ,pow_le_pow_right→YO,sub_self→W4,testBit_lt_two_pow→Wp,testBit_or→VH
open Option renaming getD_some→Zu
open UInt64 renaming ofNat→Y7,toNat_ofNat'→Zm
open UInt8 renaming ofNat→ZG,toNat_ofNat'→YR
open Nat renaming reduceEqDiff→Za,reduceAdd→Zb,reduceMul→Zc
set_option maxRecDepth 100000
set_option linter.all false
namespace Go.Mg
open Go Go.RowKit
def xJ (V:aH):S:=
 kY [kR 1 (V.t 128) 0,kC 2 (kZ)] (kY [kM 8 1 1,kc 9 (kg (V.f 134) [.t 8]),kF 7 9,kQ 10 7 0,kQ 11 7 1,kB 3 10,kB 4 11] (.seq (kY [kA 12 4,kV 13 (.not (.t 12))] (.ite (.v 13) (kY [kC 2 (kZ)] .ret) .skip)) (kY [kA 14 3,kU 15 (.dv .quo ZY (.t 14) (.c (Z8 ZY 8))),kU 16 (.ar .add ZY (.t 15) (.c (Z8 ZY 1))),kc 17 (.rJ (V.t 19) 1 1 #[Z8 ZX 0] (.t 16) (.t 16)),kB 5 17] (.seq (kY [kA 18 5,kV 19 (.m (.lenl (.t 18))),kC 20 (Z8 ZY 0)] (.blk 0 (.loop (kY [kH 21 20 19] (.seq (.ite (.v 21) .skip (.exit 0)) (.seq (.blk 1 (kY [kA 22 20,kB 6 22] (.reg [kA 23 5,kA 24 6,kG 25 0 1,kD 26 25,kA 27 6,kU 28 (.dv .quo ZY (.t 27) (.c (Z8 ZY 8))),kI 29 1 26 28,kD 30 29,kA 31 6,kU 32 (.dv .rem ZY (.t 31) (.c (Z8 ZY 8))),kU 33 (.ar .mul ZY (.c (Z8 ZY 8)) (.t 32)),kU 34 (.sh .shr ZW (.t 30) (.t 33)),kU 35 (.ii ZX (.t 34)),kI 36 1 23 24,kf (.st (.t 36) (.t 35))]))) (.reg [ke 37 20,kB 20 37]))))))) (kY [kA 38 5,kB 2 38] .ret)))))
def xK:List RV:=[.t 2]
def Df (V:aH):S:=
 (kY [kA 25 0,kL 26 25,kU 27 (.ar .add ZY (.t 26) (.c (Z8 ZY 7))),kU 28 (.dv .quo ZY (.t 27) (.c (Z8 ZY 8))),kc 29 (.rJ (V.t 28) 1 8 #[Z8 ZW 0] (.t 28) (.t 28)),kB 4 29] (.seq (kY [kV 30 (.mv (.v 0)),kO 31 30,kC 32 (Z8 ZY 0)] (.blk 0 (.loop (kY [kH 33 32 31] (.seq (.ite (.v 33) .skip (.exit 0)) (.seq (.blk 1 (kY [kA 34 32,kK 35 1 30 32,kD 36 35,kB 5 34,kB 6 36] (.reg [kA 37 4,kA 38 5,kU 39 (.dv .quo ZY (.t 38) (.c (Z8 ZY 8))),kI 40 1 37 39,kD 41 40,kA 42 6,kU 43 (.ii ZW (.t 42)),kA 44 5,kU 45 (.dv .rem ZY (.t 44) (.c (Z8 ZY 8))),kU 46 (.ar .mul ZY (.c (Z8 ZY 8)) (.t 45)),kU 47 (.sh .shl ZW (.t 43) (.t 46)),kU 48 (.bt .or ZW (.t 41) (.t 47)),kI 49 1 37 39,kf (.st (.t 49) (.t 48))]))) (.reg [ke 50 32,kB 32 50]))))))) (kY [kA 51 4,kU 52 (.m (.bld #[kZ] [(0,(1,.t 51))])),kf (.stn 1 (.v 2) (.t 52)),kC 3 (Z8 ZY 0)] .ret)))
def Dg (V:aH):S:=
 kY [kd 2 (.new (V.t 128) #[kZ]),kC 3 (Z8 ZY 0)] (.seq (kY [kA 7 0,kL 8 7,kU 9 (.cm .gtr ZY (.t 8) (.c (Z8 ZY 512))),kF 10 9,kS 11 10 ZS 0,kT 12 10 ZS (.m (.lenl (.t 11))),kT 13 10 ZS (.cm .gtr ZY (.t 12) (.c (Z8 ZY 0))),kT 14 10 ZS (.mv (.t 13)),kS 15 14 ZT 0,kS 16 14 ZT 0,kT 17 14 ZT (.m (.lenl (.t 16))),kT 18 14 ZT (.ar .sub ZY (.t 17) (.c (Z8 ZY 1))),kT 19 14 ZT (.is 1 (.t 15) (.t 18)),kT 20 14 ZT (.ld (.t 19)),kT 21 14 ZT (.cm .eql ZX (.t 20) (.c (Z8 ZX 0))),kT 22 10 ZS (.pick (.t 14) (.t 21) (.c (Z5 ZS))),kV 23 (.pick (.t 10) (.c (Z5 ZT)) (.t 22))] (.ite (.v 23) (kY [kU 24 (.m (.bld #[kZ] [])),kf (.stn 1 (.v 2) (.t 24)),kC 3 (Z8 ZY 6)] .ret) .skip)) (Df V))
def nT:List RV:=[.cn 2 1,.t 3]
def bP (l:List UInt8) (n:Nat):Bool:=(l.getD (n/8) 0).toNat.testBit (n % 8)
def eZ (l:List UInt8):Prop:=∀h:l≠[],l.getLast h≠0
variable {l:List UInt8} {x:UInt8} {k:FuncId} {i:Nat} {P:Program} {V:aH}
def lE {n:Nat} (h:8*l.length<=n):bP l n=ZS:=by
 unfold bP;rw[ZP,List.getElem?_eq_none (by omega)];simp
def Dh (l:List UInt8) (k b:Nat) (hb:b<8):bP l (8*k+b)=(l.getD k 0).toNat.testBit b:=by
 unfold bP;rw[show(8*k+b)/8=k by omega,show(8*k+b) % 8=b by omega]
def TV {y:UInt8} (h:∀b<8,x.toNat.testBit b=y.toNat.testBit b):x=y:=by
 apply UInt8.toNat_inj.1;apply Nat.eq_of_testBit_eq;intro k
 by_cases hk:k<8
 ·exact h k hk
 ·have e:∀z:UInt8,z.toNat.testBit k=ZS:=fun z=>Wp (Xv z.toNat_lt (YO (n:=2) (by omega) (show 8<=k by omega)));rw[e,e]
def agL (h:x≠0):∃b<8,x.toNat.testBit b=ZT:=by
 apply Zn;intro hn;refine h (TV fun b hb=>?_)
 cases e:x.toNat.testBit b with
 |false=>simp
 |true=>exact absurd ⟨b,hb,e⟩ hn
def eZ.top (h:eZ l) (hl:l≠[]):∃n,bP l n=ZT/\8*(l.length -1)<=n/\n<8*l.length:=by
 have hp:0<l.length:=List.length_pos_iff.2 hl;have h1:=h hl;rw[Yr]at h1;obtain⟨b,hb,e⟩:=agL h1;refine⟨8*(l.length -1)+b,?_,by omega,by omega⟩;rw[Dh _ _ _ hb,ZP,ZO (by omega)];exact e
def eZ.mC (h:l≠[]->∃n,bP l n=ZT/\8*(l.length -1)<=n):eZ l:=fun hl e=>by
 obtain⟨n,h1,h2⟩:=h hl;have hp:0<l.length:=List.length_pos_iff.2 hl;rw[Yr]at e
 by_cases hn:n<8*l.length
 ·unfold bP at h1;rw[show n/8=l.length -1 by omega,ZP,ZO (by omega),Zu,e]at h1;simp at h1
 ·rw[lE (by omega)]at h1;cases h1
def xL {m:List UInt8} (hl:eZ l) (hm:eZ m) (h:∀n,bP l n=bP m n):l=m:=by
 have le:∀{l m:List UInt8},eZ l->(∀n,bP l n=bP m n)->l.length<=m.length:=fun{l m} hl h=>by
  apply Zn;intro hc;obtain⟨n,h1,h2,h3⟩:=hl.top (by intro e;subst e;simp at hc);rw[h,lE (by omega)]at h1
  cases h1
 have hlen:l.length=m.length:=Nat.le_antisymm (le hl h) (le hm fun n=>(h n).symm);refine List.ext_getElem hlen fun i h1 h2=>TV fun b hb=>?_;have:=h (8*i+b);rw[Dh _ _ _ hb,Dh _ _ _ hb,ZP,ZO h1,ZP,ZO h2]at this;exact this
def Pt (W:List UInt64) (k:Nat):List UInt8:=(List.range k).map fun i=>ZG ((W.getD (i/8) 0).toNat/2^(8*(i % 8)) % 256)
def eI (W:List UInt64) (k:Nat):(Pt W k).length=k:=by simp[Pt]
def adl (W:List UInt64) {k:Nat} (h:i<k):(Pt W k).getD i 0=ZG ((W.getD (i/8) 0).toNat/2^(8*(i % 8)) % 256):=by
 simp[Pt,h]
def MB (W:List UInt64) (k n:Nat) (h:n<8*k):bP (Pt W k) n=cC W n:=by
 unfold bP cC bt;rw[adl W (show n/8<k by omega),YR,show 2^8=256 by rfl,Nat.mod_mod];have e:(256:Nat)=2^8:=rfl;rw[e,Nat.testBit_mod_two_pow,Nat.testBit_div_two_pow,decide_eq_true (show n % 8<8 by omega),X0];rw[show n/8/8=n/64 by omega,show n % 8+8*(n/8 % 8)=n % 64 by omega]
def FL (P:Program) (k:FuncId):Prop:=∀(p:Nat->Bool) (x:ZR) (H:Hp),aR H x p->an P k #[x] H fun r H'=>(∃l,br H' r (w8 l)/\eZ l/\(∀n,bP l n=p n)/\l.length<=512)/\(∀q,ay r q->H.size<=q)/\af (fun _=>False) H H'
def OI (hk:ak P k (xJ V) xK 1) (hg:iG P (V.f 134)):FL P k:=by
 intro p x H hx;refine qI fun Q hQ=>?_;have hx0:=hx;obtain⟨v,W,rfl,hv⟩:=hx;refine ah hk (args:=[_]) (by simp) ?_;unfold xJ xK kA kB kF kC kD ke kG kH kI kM kQ kR kU kV kc kf kg kY kZ;simp only[go_sem,Za,Zb,zF];refine ax fun H1 b1 e1 z1 B1 K1=>?_;have bL:Bl H1 b1 [v]:=B1;have s1:=K1.size;simp only[go_sem,Za,Zb,zF,bL.aL 1 rfl];refine(hg p _ H1 (hx0.aj K1)).mono ?_;rintro r H2 ⟨hr,K2⟩;have B2:=K2.bl bL id;have df:=K1.trans K2;rw[ae];rcases hr with⟨rfl,hp⟩|⟨t,rfl,ht⟩
 ·simp only[go_sem,Za,Zb,ae,zF,ZB];rw[hQ];exact⟨⟨[],br.nil _,fun h=>absurd rfl h,fun n=>by rw[hp,lE (by simp)],by simp⟩,fun q h=>h.elim,df⟩
 ·have htl:=hv.lt ht.1;have hlen:=hv.len;have ht4:t<4096:=by omega
  have q1:(t:Int).tdiv 8=((t/8:Nat):Int):=(XS t 8).symm;have w0:∀m:Nat,m<=1000000->IntKind.i64.wrap (m:Int)=(m:Int):=fun m hm=>ZN _ (by omega);have w1:IntKind.i64.wrap (((t/8:Nat):Int)+1)=((t/8+1:Nat):Int):=by rw[ZN _ (by omega)];omega
  simp only[go_sem,Za,Zb,zF,ZE,q1,w0 (t/8) (by omega),w1];refine⟨by decide,⟨by omega,by omega,by unfold maxLen;omega⟩,?_⟩;refine aG fun H3 b3 e3 z3 B3 K3=>?_;rw[dx,PV]at B3;have s2:=K2.size;have mD:=df.trans K3;simp only[go_sem,Za,Zb,zF,al];refine aF (t/8+1) [21,6,20] rfl rfl (by omega) (by rfl) (by rfl) (fun i g A=>Bl A b3 (w8 (Pt W i++ZM (t/8+1 -i) 0))/\af (fun q=>q=b3) H3 A) ⟨B3,af.refl _ _⟩ ?_ ?_
  ·rintro i g A hi gi gn ⟨BA,KA⟩;simp only[go_sem,Za,Zb,ae]at gi gn;have q2:(i:Int).tdiv 8=((i/8:Nat):Int):=(XS i 8).symm;have q3:(i:Int).tmod 8=((i % 8:Nat):Int):=ct i 8;have w2:IntKind.i64.wrap (8*((i % 8:Nat):Int))=((8*(i % 8):Nat):Int):=by rw[ZN _ (by omega)];omega
   have KHA:af (fun _=>False) H A:=mD.trans' KA fun q hq e=>by omega
   have hvA:=hv.ai KHA (by simp);have hW:i/8<W.length:=by omega
   obtain⟨wb,wo,wc,rfl,hwc,hcell⟩:=hvA.sl.cells (by intro e;have h:=congrArg Y8 e;rw[aI,Zx]at h;omega);rw[aI]at hcell hwc;have hc:=hcell (i/8) hW;rw[dW _ _ hW]at hc;have QU:=KA.bl ((K2.trans K3).bl bL (by simp)) (by omega);have c0:cell A ⟨b1,0,ZU⟩=ZV (Z6 (ZV ⟨wb,wo,ZU⟩) W.length wc):=by rw[QU.cell,aI];rfl
   have lt:=BA.bw (o:=i) (by rw[aM,List.length_append,eI,List.length_replicate];omega);have wb8:IntKind.u8.wrap (((W.getD (i/8) 0).toNat:Int)/2^(8*(i % 8)))=((ZG ((W.getD (i/8) 0).toNat/2^(8*(i % 8)) % 256)).toNat:Int):=by
    have e:(((W.getD (i/8) 0).toNat:Int)/2^(8*(i % 8)))=(((W.getD (i/8) 0).toNat/2^(8*(i % 8)):Nat):Int):=by simp
    rw[e,YR];generalize(W.getD (i/8) 0).toNat/2^(8*(i % 8))=z
    show(z:Int) % 256=_
    omega
   simp only[go_sem,Za,Zb,zF,gi,q2,q3,w0 (i/8) (by omega),w2,c0,al,hc,lt,wb8];refine⟨by decide,by omega,by decide,by omega,by omega,?_⟩;rw[ae];simp only[go_sem,Za,Zb,ae,zF];have hs:=BA.az i (Z8 ZX (ZG ((W.getD (i/8) 0).toNat/2^(8*(i % 8)) % 256)).toNat);rw[vx]at hs;refine⟨?_,KA.az _ (.inl rfl)⟩;have e:(Pt W i++ZM (t/8+1 -i) 0).set i (ZG ((W.getD (i/8) 0).toNat/2^(8*(i % 8)) % 256))=Pt W (i+1)++ZM (t/8+1 -(i+1)) 0:=by
    rw[List.set_append,if_neg (by rw[eI];omega),eI,W4,show t/8+1 -i=(t/8+1 -(i+1))+1 by omega,List.replicate_succ,List.set_cons_zero];rw[Pt,Pt,List.range_succ,List.map_append,List.append_assoc]
    rfl
   rw[<-e];exact hs
  ·rintro g A gi ⟨BA,KA⟩;simp only[go_sem,Za,Zb,ae,zF];rw[hQ];rw[W4,List.replicate_zero,List.append_nil]at BA;have bt1:=MB W (t/8+1);refine⟨⟨Pt W (t/8+1),br.new BA (by rw[aM,eI]) rfl,eZ.mC fun _=>⟨t,by rw[bt1 t (by omega),hv.is];exact ht.1,by rw[eI];omega⟩,fun n=>?_,by rw[eI];omega⟩,fun q (hq:q=b3)=>by omega,mD.trans' KA fun q hq e=>by omega⟩
   by_cases hn:n<8*(t/8+1)
   ·rw[bt1 n hn,hv.is]
   ·rw[lE (by rw[eI];omega)]
    cases e:p n with
    |false=>rfl
    |true=>have:=ht.2 n e;omega
def wdI (l:List UInt8) (i:Nat) (W:List UInt64):Prop:=W.length=(l.length+7)/8/\∀n,cC W n=(ZQ (n<8*i)&&bP l n)
def alJ (x:UInt8) (k:Nat) (hk:k<8):IntKind.u64.wrap (IntKind.u64.wrap (x.toNat:Int)*2^(8*k))=((Y7 (x.toNat*2^(8*k))).toNat:Int):=by
 have hx:=x.toNat_lt;have e1:IntKind.u64.wrap (x.toNat:Int)=(x.toNat:Int):=by
  show(x.toNat:Int) % 18446744073709551616=_
  omega
 have hp:2^(8*k)<=2^56:=YO (by omega) (by omega);have hle:x.toNat*2^(8*k)<18446744073709551616:=by
  have:=WQ (show x.toNat<=255 by omega) hp;omega
 rw[e1,Zm,YF hle]
 show((x.toNat:Int)*2^(8*k)) % 18446744073709551616=_
 have e2:(x.toNat:Int)*2^(8*k)=((x.toNat*2^(8*k):Nat):Int):=by simp
 rw[e2];omega
def adm (w:UInt64) (x:UInt8) (k b:Nat) (hk:k<8):bt (w|||Y7 (x.toNat*2^(8*k))) b=(bt w b||(ZQ (8*k<=b)&&x.toNat.testBit (b -8*k))):=by
 have hx:=x.toNat_lt;have hp:2^(8*k)<=2^56:=YO (by omega) (by omega);have hle:x.toNat*2^(8*k)<18446744073709551616:=by
  have:=WQ (show x.toNat<=255 by omega) hp;omega
 unfold bt;rw[UInt64.toNat_or,VH,Zm,YF hle,Nat.testBit_mul_two_pow]
def TW {W:List UInt64} (h:wdI l i W) (hi:i<l.length):wdI l (i+1) (W.set (i/8) (W.getD (i/8) 0|||Y7 ((l.getD i 0).toNat*2^(8*(i % 8))))):=by
 obtain⟨h1,h2⟩:=h;refine⟨by simpa using h1,fun n=>?_⟩;rw[vQ W _ (by omega)]
 by_cases hn:n/64=i/8
 ·have e0:=h2 n;unfold cC at e0;rw[hn]at e0;rw[if_pos hn,adm _ _ _ _ (by omega),e0]
  by_cases hb:n/8=i
  ·have e3:bP l n=(l.getD i 0).toNat.testBit (n % 8):=by unfold bP;rw[hb]
   rw[decide_eq_false (show¬n<8*i by omega),decide_eq_true (show n<8*(i+1) by omega),decide_eq_true (show 8*(i % 8)<=n % 64 by omega),show n % 64 -8*(i % 8)=n % 8 by omega,e3];simp
  ·by_cases hlt:n<8*i
   ·rw[decide_eq_true hlt,decide_eq_true (show n<8*(i+1) by omega),decide_eq_false (show¬8*(i % 8)<=n % 64 by omega)];simp
   ·rw[decide_eq_false hlt,decide_eq_false (show¬n<8*(i+1) by omega)];have:(l.getD i 0).toNat.testBit (n % 64 -8*(i % 8))=ZS:=by
     have hx:=(l.getD i 0).toNat_lt;exact Wp (Xv hx (YO (n:=2) (by omega) (show 8<=n % 64 -8*(i % 8) by omega)))
    rw[this];simp
 ·rw[if_neg hn,h2]
  by_cases hlt:n<8*i
  ·rw[decide_eq_true hlt,decide_eq_true (show n<8*(i+1) by omega)]
  ·rw[decide_eq_false hlt,decide_eq_false (show¬n<8*(i+1) by omega)]
def MC (P:Program) (k:FuncId):Prop:=∀(l:List UInt8) (v:ZR) (H:Hp),aP H v (w8 l)->l.length<=100000000->an P k #[v] H fun r H'=>((l.length<=512/\eZ l/\∃x,r=ZZ #[Z0 #[x],Z8 ZY 0]/\aR H' (Z0 #[x]) (bP l)/\∀q,aV x q->H.size<=q)\/(¬(l.length<=512/\eZ l)/\r=ZZ #[Z0 #[Z6 ZU 0 0],Z8 ZY 6]))/\af (fun _=>False) H H'
def adn {f:Fr} {A:Hp} {b2:Nat} {v:ZR} {Q:ZR->Hp->Prop} (h0:f 0=v) (h2:f 2=Z7 (ZV ⟨b2,0,ZU⟩)) (B2:Bl A b2 [Z6 ZU 0 0]) (hv:aP A v (w8 l)) (hb2:∀q,aV v q->q≠b2) (hl:l.length<=512) (hc:eZ l)
  (hK:∀A' x,aR A' (Z0 #[x]) (bP l)->(∀q,aV x q->A.size<=q)->af (fun q=>q=b2) A A'->Q (ZZ #[Z0 #[x],Z8 ZY 0]) A'):vc P (Df V) (kr nT Q) f A:=by
 unfold Df nT kA kB kC kD ke kH kI kK kL kO kU kV kc kf kY kZ;have w0:∀m:Nat,m<=1000000->IntKind.i64.wrap (m:Int)=(m:Int):=fun m hm=>ZN _ (by omega);have w1:IntKind.i64.wrap ((l.length:Int)+7)=((l.length+7:Nat):Int):=by rw[ZN _ (by omega)];omega
 have q1:((l.length+7:Nat):Int).tdiv 8=(((l.length+7)/8:Nat):Int):=(XS _ 8).symm;have s2:=B2.lt;simp only[go_sem,Za,Zb,zF,h0,hv.aq,hv.len,aM,w1,q1,w0 ((l.length+7)/8) (by omega)];refine⟨by decide,⟨by omega,by omega,by unfold maxLen;omega⟩,?_⟩;refine aG fun H3 b3 e3 z3 B3 K3=>?_;rw[dx,qf]at B3;simp only[go_sem,Za,Zb,zF,al,h0,hv.aq,hv.len,aM];refine aF l.length [33,5,6,32] rfl rfl (by omega) (by rfl) (by rfl) (fun i g B=>∃W,Bl B b3 (cj W)/\wdI l i W/\af (fun q=>q=b3) H3 B) ⟨_,B3,⟨by simp,fun n=>?_⟩,af.refl _ _⟩ ?_ ?_
 ·have:cC (ZM ((l.length+7)/8) 0) n=ZS:=by
   have:=vR [] ((l.length+7)/8) n;rw[List.nil_append]at this;rw[this,fZ (by simp)]
  rw[this,decide_eq_false (by omega),Yy]
 ·rintro i g B hi gi gn ⟨W,BW,hW,KB⟩;simp only[go_sem,Za,Zb,ae]at gi gn;have KAB:af (fun _=>False) A B:=K3.trans' KB fun q hq e=>by omega
  have hvB:=hv.ai KAB (by simp);obtain⟨vb,vo,vc',rfl,hvc,hcell⟩:=hvB.cells (by intro e;have h:=congrArg Y8 e;rw[aM,Zx]at h;omega);rw[aM]at hcell hvc;have hci:=hcell i hi;rw[k8 _ _ hi]at hci;have q2:(i:Int).tdiv 8=((i/8:Nat):Int):=(XS i 8).symm;have q3:(i:Int).tmod 8=((i % 8:Nat):Int):=ct i 8;have w2:IntKind.i64.wrap (8*((i % 8:Nat):Int))=((8*(i % 8):Nat):Int):=by rw[ZN _ (by omega)];omega
  have hWl:=hW.1;have lt:=BW.bw (o:=i/8) (by rw[aI];omega);have cw:cell B ⟨b3,i/8,ZU⟩=ZV (Z8 ZW (W.getD (i/8) 0).toNat):=by rw[BW.cell,dW _ _ (by omega)]
  have hs:=BW.az (i/8) (Z8 ZW (W.getD (i/8) 0|||Y7 ((l.getD i 0).toNat*2^(8*(i % 8)))).toNat);rw[nB _ _ (by omega)]at hs;simp only[go_sem,Za,Zb,ae,zF,gi,q2,q3,w0 (i/8) (by omega),w2,al,hci,lt,cw,alJ _ _ (show i % 8<8 by omega),uI,aM];refine⟨by omega,by decide,by omega,by decide,by omega,?_⟩;exact⟨by omega,_,hs,TW hW hi,KB.az (p:=⟨b3,i/8,ZU⟩) _ (.inl rfl)⟩
 ·rintro g B gi ⟨W,BW,hW,KB⟩;have aeH:∀n,cC W n=bP l n:=fun n=>by
   rw[hW.2]
   by_cases hn:n<8*l.length
   ·rw[decide_eq_true hn,X0]
   ·rw[decide_eq_false hn,Yy,lE (by omega)]
  have K3B:af (fun _=>False) A B:=K3.trans' KB fun q hq e=>by omega
  have hWl:=hW.1;have EJ:Can W:=Can.mC fun hne=>by
   have hl0:l≠[]:=by
    intro e;subst e;exact hne (List.eq_nil_of_length_eq_zero (by simpa using hWl))
   obtain⟨n,t1,t2,t3⟩:=hc.top hl0;exact⟨n,by rw[aeH];exact t1,by omega⟩
  have BA:=K3B.bl B2 id;have t2:=BA.bG (o:=0) (n:=1) (by simp);have L:=BA.aB 0 [Z6 (ZV ⟨b3,0,ZU⟩) ((l.length+7)/8) ((l.length+7)/8)];rw[pU _ _ (by simp)]at L;have KL:af (fun q=>q=b2) B (aB B ⟨b2,0,ZU⟩ [Z6 (ZV ⟨b3,0,ZU⟩) ((l.length+7)/8) ((l.length+7)/8)]):=(af.refl _ _).aB _ (.inl rfl);have hS:aP B (Z6 (ZV ⟨b3,0,ZU⟩) ((l.length+7)/8) ((l.length+7)/8)) (cj W):=by
   have:=aP.bl BW 0 W.length W.length (by omega) (by rw[aI];omega);rw[List.drop_zero,<-aI W,ZI,aI,hWl]at this;exact this
  simp only[go_sem,Za,Zb,ae,zF,h2,t2,oR,cR,L.aL 1 rfl];refine⟨aU rfl,hK _ _ ⟨_,W,rfl,hS.ai KL fun q hq e=>?_,by omega,EJ,aeH⟩ (fun q hq=>?_) (K3B.any.trans KL)⟩
  ·have:q=b3:=hq.1;omega
  ·have:q=b3:=hq.1;omega
def TX (hk:ak P k (Dg V) nT 1):MC P k:=by
 intro l v H hv hl;refine qI fun Q hQ=>?_;refine ah hk (args:=[_]) (by simp) ?_;unfold Dg kA kF kC kL kS kT kU kV kd kf kY kZ;have hr:nT=[.cn 2 1,.t 3]:=rfl;simp only[go_sem,Za,Zb,zF];refine ax fun H1 b2 e1 z1 B2 K1=>?_;have fG:Bl H1 b2 [Z6 ZU 0 0]:=B2;have hv1:=hv.ai K1 (by simp);have nb:∀q,aV v q->q≠b2:=fun q hq e=>by have:=hv.bo hq;omega
 have s1:=K1.size;have t2:=fG.bG (o:=0) (n:=1) (by simp);have L:=fG.aB 0 [Z6 ZU 0 0];rw[pU _ _ (by simp)]at L;have KL:af (fun q=>q=b2) H1 (aB H1 ⟨b2,0,ZU⟩ [Z6 ZU 0 0]):=(af.refl _ _).aB _ (.inl rfl);have bad:¬(l.length<=512/\eZ l)->bM #[Value.slice ZU 0 0]/\Q (ZZ #[Z0 #[Z6 ZU 0 0],Z8 ZY 6]) (aB H1 ⟨b2,0,ZU⟩ [Z6 ZU 0 0]):=fun h=>⟨aU rfl,by
  rw[hQ];exact⟨.inr ⟨h,rfl⟩,K1.trans' KL fun q hq e=>by omega⟩⟩
 have wg:l.length<=512->eZ l->∀f:Fr,f 0=v->f 2=Z7 (ZV ⟨b2,0,ZU⟩)->vc P (Df V) (kr nT Q) f H1:=fun h1 h2 f f0 f2=>adn f0 f2 fG hv1 nb h1 h2 fun A' x S o K=>by
  rw[hQ];exact⟨.inl ⟨h1,h2,x,rfl,S,fun q hq=>by have:=o q hq;omega⟩,K1.trans' K fun q hq e=>by omega⟩
 by_cases amB:512<l.length
 ·have d1:ZQ ((l.length:Int)>512)=ZT:=decide_eq_true (by omega);rw[hr];simp only[go_sem,Za,Zb,ae,zF,hv.aq,hv.len,aM,d1,false_imp_iff,forall_const,t2,cR,L.aL 1 rfl];exact bad fun h=>by omega
 have d1:ZQ ((l.length:Int)>512)=ZS:=decide_eq_false (by omega)
 by_cases h0:l=[]
 ·subst h0;have d1:ZQ ((0:Int)>512)=ZS:=rfl;have d2:ZQ ((0:Int)>0)=ZS:=rfl;have e0:(((0:Nat):Int))=0:=rfl;simp only[go_sem,Za,Zb,ae,zF,hv.aq,hv.len,aM,e0,d1,d2,ZB,false_imp_iff,forall_const];exact wg (by simp) (fun h=>absurd rfl h) _ (by rfl) (by rfl)
 have GA:0<l.length:=List.length_pos_iff.2 h0;have d2:ZQ ((l.length:Int)>0)=ZT:=decide_eq_true (by omega);obtain⟨vb,vo,vc',rfl,hvc,hcell⟩:=hv1.cells (by intro e;have h:=congrArg Y8 e;rw[aM,Zx]at h;omega);rw[aM]at hcell hvc hv1 wg;have hci:=hcell (l.length -1) (by omega);rw[k8 _ _ (by omega)]at hci;have w1:IntKind.i64.wrap ((l.length:Int) -1)=((l.length -1:Nat):Int):=by rw[ZN _ (by omega)];omega
 have hlast:l.getLast h0=l.getD (l.length -1) 0:=by rw[Yr,ZP,ZO (by omega)];rfl
 by_cases hz:l.getD (l.length -1) 0=0
 ·have d3:(((l.getD (l.length -1) 0).toNat:Int)==0)=ZT:=by rw[hz];rfl
  rw[hr];simp only[go_sem,Za,Zb,ae,zF,aM,d1,d2,d3,w1,al,hci,false_imp_iff,forall_const,t2,cR,L.aL 1 rfl];exact⟨by omega,bad fun h=>h.2 h0 (hlast.trans hz)⟩
 ·have d3:(((l.getD (l.length -1) 0).toNat:Int)==0)=ZS:=by
   rw[beq_eq_false_iff_ne];intro e;exact hz (UInt8.toNat_inj.1 (by rw[show(0:UInt8).toNat=0 by rfl];omega))
  simp only[go_sem,Za,Zb,ae,zF,aM,d1,d2,d3,w1,al,hci,false_imp_iff,forall_const];exact⟨by omega,wg (by omega) (fun h=>by rw[hlast];exact hz) _ (by rfl) (by rfl)⟩
def JR (V:aH):S:=
 kY [kR 3 (V.t 128) 1] (.reg [kA 4 0,kM 5 1 3,kc 6 (kg (V.f 338) [.t 5]),kc 7 (kg (V.f 58) [.t 4,.t 6])])
def JS:List RV:=[]
def Di (V:aH):S:=
 kY [kC 4 (Z8 ZW 0)] (.seq (kY [kA 7 0,kc 8 (kg (V.f 109) [.t 7]),kV 9 (.not (.t 8))] (.ite (.v 9) (kY [kC 4 (Z8 ZW 0)] .ret) .skip)) (kY [kA 11 0,kc 12 (kg (V.f 111) [.t 11]),kF 10 12,kQ 13 10 0,kQ 14 10 1,kB 5 13,kB 6 14] (.seq (kY [kA 15 0,kA 16 6,kU 17 (.cm .eql ZY (.t 16) (.c (Z8 ZY 0))),kc 18 (kg (V.f 110) [.t 15,.t 17,.c (Z8 ZY 6)]),kU 19 (.not (.t 18)),kF 20 19,kS 21 20 ZS 0,kS 22 20 ZS 5,kS 23 20 ZS 1,kT 24 20 ZS (.cm .gtr ZW (.t 22) (.t 23)),.ge (.t 25) (.t 20) ZS (kg (V.f 110) [.t 21,.t 24,.c (Z8 ZY 2)]),kT 26 20 ZS (.not (.t 25)),kV 27 (.pick (.t 20) (.c (Z5 ZT)) (.t 26))] (.ite (.v 27) (kY [kC 4 (Z8 ZW 0)] .ret) .skip)) (kY [kA 28 0,kA 29 6,kc 30 (kg (V.f 112) [.t 28,.t 29])] (kY [kA 31 5,kB 4 31] .ret)))))
def Dj:List RV:=[.t 4]
def JT (V:aH):S:=
 kY [kC 4 (Z8 ZY 0)] (.seq (kY [kA 5 0,kc 6 (kg (V.f 109) [.t 5]),kU 7 (.not (.t 6)),kF 8 7,kS 9 8 ZS 0,kS 10 8 ZS 1,kT 11 8 ZS (.cm .lss ZY (.t 10) (.c (Z8 ZY 0))),.ge (.t 12) (.t 8) ZS (kg (V.f 110) [.t 9,.t 11,.c (Z8 ZY 1)]),kT 13 8 ZS (.not (.t 12)),kV 14 (.pick (.t 8) (.c (Z5 ZT)) (.t 13))] (.ite (.v 14) (kY [kC 4 (Z8 ZY 0)] .ret) .skip)) (kY [kA 15 0,kA 16 1,kU 17 (.ii ZW (.t 16)),kc 18 (kg (V.f 341) [.t 15,.t 17]),kU 19 (.ii ZY (.t 18)),kB 4 19] .ret))
def JU:List RV:=[.t 4]
def JV (V:aH):S:=
 kY [kd 4 (.new (V.t 128) #[kZ])] (.seq (kY [kA 10 0,kc 11 (kg (V.f 109) [.t 10]),kV 12 (.not (.t 11))] (.ite (.v 12) (kY [kU 13 (.m (.bld #[kZ] [])),kf (.stn 1 (.v 4) (.t 13))] .ret) .skip)) (kY [kA 14 0,kU 15 (.nil (.t 14)),kU 16 (.fa 0 (.t 15)),kD 17 16,kB 5 17] (kY [kA 19 0,kc 20 (kg (V.f 114) [.t 19,.c (Z8 ZY 512)]),kc 21 (kg (V.f 339) [.t 20]),kF 18 21,kQ 22 18 0,kQ 23 18 1,kd 6 (.new (V.t 128) #[kZ]),kf (.stn 1 (.v 6) (.t 22)),kB 7 23] (.seq (kY [kA 24 0,kc 25 (kg (V.f 109) [.t 24]),kV 26 (.not (.t 25))] (.ite (.v 26) (kY [kU 27 (.m (.bld #[kZ] [])),kf (.stn 1 (.v 4) (.t 27))] .ret) .skip)) (kY [kM 29 1 6,kc 30 (kg (V.f 134) [.t 29]),kF 28 30,kQ 31 28 0,kQ 32 28 1,kB 8 31,kB 9 32] (.seq (.blk 0 (kY [kA 35 7,kU 36 (.cm .neq ZY (.t 35) (.c (Z8 ZY 0))),kB 34 36] (.ite (.v 34) (.reg [kA 37 0,kU 38 (.nil (.t 37)),kU 39 (.fa 1 (.t 38)),kf (.st (.t 39) (.c (Z8 ZY 6)))]) (kY [kA 41 9,kF 42 41,kS 43 42 ZT 8,kS 44 42 ZT 1,kT 45 42 ZT (.cm .gtr ZY (.t 43) (.t 44)),kJ 46 42 45,kB 40 46] (.ite (.v 40) (.reg [kA 47 0,kU 48 (.nil (.t 47)),kU 49 (.fa 1 (.t 48)),kf (.st (.t 49) (.c (Z8 ZY 2)))]) (kY [kM 33 1 6,kf (.stn 1 (.v 4) (.t 33))] .ret)))))) (kY [kA 50 0,kA 51 5,kU 52 (.nil (.t 50)),kU 53 (.fa 0 (.t 52)),kf (.st (.t 53) (.t 51))] (kY [kU 54 (.m (.bld #[kZ] [])),kf (.stn 1 (.v 4) (.t 54))] .ret))))))))
def JW:List RV:=[.cn 4 1]
def TY (V:aH):S:=
 kY [kC 4 (Z5 ZS)] (kY [kA 5 0,kU 6 (.m (.b2s (.t 5))),kA 7 1,kU 8 (.m (.b2s (.t 7))),kU 9 (.sc .eql (.t 6) (.t 8)),kB 4 9] .ret)
def TZ:List RV:=[.t 4]
def Dk (V:aH):S:=
 kY [kC 4 (Z5 ZS)] (kY [kA 5 0,kU 6 (.m (.b2s (.t 5))),kA 7 1,kU 8 (.m (.b2s (.t 7))),kU 9 (.sc .eql (.t 6) (.t 8)),kB 4 9] .ret)
def Dl:List RV:=[.t 4]
def mZ (P:Program) (k:FuncId):Prop:=∀(F:Nat->Prop) (w:Nat) (l m:List UInt8) (p:Nat->Bool) (x:ZR) (H:Hp),yc F H w l->aR H x p->eZ m->(∀n,bP m n=p n)->l.length<=70000000→
 an P k #[Z7 (ZV ⟨w,0,ZU⟩),x] H fun r H'=>r=ZZ #[]/\yc (grow F H H') H' w (l++du m)/\af F H H'
def ado (hk:ak P k (JR V) JS 2) (hb:FL P (V.f 338)) (hw:fV P (V.f 58)):mZ P k:=by
 intro F w l m p x H hW hx hm hmp hl;obtain⟨v,W,rfl,hv⟩:=hx;have hx:aR H (Z0 #[v]) p:=⟨v,W,rfl,hv⟩
 refine ah hk (args:=[_,_]) (by simp) ?_;unfold JR JS kA kM kR kc kg kY;simp only[go_sem,Za,Zb,zF];refine ax fun H1 b1 e1 z1 B1 K1=>?_;have bL:Bl H1 b1 [v]:=B1;have s1:=K1.size;have hF:=hW.bound;simp only[go_sem,Za,Zb,zF,bL.aL 1 rfl];refine(hb p _ H1 (hx.aj K1)).mono ?_;rintro r H2 ⟨⟨l2,O2,c2,b2,n2⟩,o2,K2⟩;have e2:l2=m:=xL c2 hm fun n=>(b2 n).trans (hmp n).symm;subst e2;have df:=K1.trans K2;have s2:=df.size;rw[ae];simp only[go_sem,Za,Zb,zF];refine(hw F w l l2 r H2 (hW.ai df (by simp)) O2.sl (fun q hq hf=>by have:=o2 q (O2.aV hq);have:=hF q hf;omega) (by omega)).mono ?_;rintro r H3 ⟨rfl,W3,K3⟩;rw[ae];simp only[go_sem,Za,Zb,ae,zF];refine⟨W3.mono (fun q h=>?_) (fun q h=>?_),df.any.trans K3⟩
 ·rcases h with h|h
  ·exact .inl h
  ·exact .inr ⟨by omega,h.2⟩
 ·have:=K3.size;rcases h with h|h
  ·have:=hF q h;omega
  ·exact h.2
def rdNum (most:Nat) (s:List UInt8×Int):Nat×(List UInt8×Int):=
 if s.2≠0 then(0,s)else match fA ZT 0 s.1 with|none=>(0,(s.1,6))|some (v,r)=>if v>most then(0,(s.1,2))else(v,(r,0))
def zo (P:Program) (k:FuncId):Prop:=∀(F:Nat->Prop) (r:Nat) (s:List UInt8×Int) (most:Nat) (H:Hp),jm F H r s.1 s.2->s.1.length<=100000000->most<=1000000000->an P k #[Z7 (ZV ⟨r,0,ZU⟩),Z8 ZW most] H fun x H'=>
 x=Z8 ZW (rdNum most s).1/\jm F H' r (rdNum most s).2.1 (rdNum most s).2.2/\af (fun k=>k=r) H H'
def T0 (hk:ak P k (Di V) Dj 2) (ho:ic P (V.f 109)) (hrf:jX P (V.f 110)) (hn:jY P (V.f 111)) (ht:jZ P (V.f 112)):zo P k:=by
 rintro F r ⟨l,e⟩ most H hr hl hm;refine ah hk (args:=[_,_]) (by simp) ?_;unfold Di Dj kA kB kF kC kQ kS kT kU kV kc kg kY;simp only at hr hl;simp only[go_sem,Za,Zb,ae];refine(ho _ _ _ _ _ hr).mono ?_;rintro x H1 ⟨rfl,rfl⟩;rw[ae]
 by_cases c:e=0
 case neg=>
  have e1:(e==0)=ZS:=by simpa using c
  have:rdNum most (l,e)=(0,(l,e)):=by unfold rdNum;rw[if_pos (by simpa using c)]
  simp only[go_sem,Za,Zb,ae,e1,this,ZB];exact⟨hr,af.refl _ _⟩
 subst c;have uz:((0:Int)==0)=ZT:=rfl;simp only[go_sem,Za,Zb,ae,uz,ZE];refine(hn _ _ _ _ _ hr hl).mono ?_;rintro x H2' ⟨rfl,rfl⟩;rw[ae]
 cases hd:fA ZT 0 l with
 |none=>
  have:rdNum most (l,0)=(0,(l,6)):=by unfold rdNum;rw[if_neg (by simp),hd]
  rw[tx hd,this];simp only[go_sem,Za,Zb,ae,uz];refine(hrf _ _ _ _ _ _ hr).mono ?_;rintro x H3 ⟨rfl,R3,K3⟩;rw[ae];simp only[go_sem,Za,Zb,ae]at R3;simp only[go_sem,Za,Zb,ae,ZE,ZB,false_imp_iff,forall_const];exact⟨R3,K3⟩
 |some p=>
  obtain⟨v,q⟩:=p;obtain⟨h1,h2,h3,h4⟩:=tw hd;rw[h1];have hq:(((l.length -q.length:Nat):Int)==0)=ZS:=by simp;omega
  simp only[go_sem,Za,Zb,ae,hq];refine(hrf _ _ _ _ _ _ hr).mono ?_;rintro x H3 ⟨rfl,R3,K3⟩;rw[ae];simp only[go_sem,Za,Zb,ae]at R3;have hr0:rdNum most (l,0)=if v>most then(0,(l,2))else(v,(q,0)):=by unfold rdNum;rw[if_neg (by simp),hd]
  by_cases cv:v>most
  ·have d1:ZQ ((v:Int)>(most:Int))=ZT:=decide_eq_true (by omega);rw[hr0,if_pos cv];simp-implicitDefEqProofs only[go_sem,↓reduceIte,Za,Zb,Zc,reduceCtorEq,ae,d1,ZE,ZB,false_imp_iff,forall_const];refine(hrf _ _ _ _ _ _ R3).mono ?_;rintro x H4 ⟨rfl,R4,K4⟩;rw[ae];simp only[go_sem,Za,Zb,ae]at R4;simp only[go_sem,Za,Zb,ae,ZE,ZB,false_imp_iff,forall_const];exact⟨R4,K3.trans K4⟩
  ·have d1:ZQ ((v:Int)>(most:Int))=ZS:=decide_eq_false (by omega);rw[hr0,if_neg cv];simp-implicitDefEqProofs only[go_sem,↓reduceIte,Za,Zb,Zc,reduceCtorEq,ae,d1,ZE,ZB,false_imp_iff,forall_const];refine(hrf _ _ _ _ _ _ R3).mono ?_;rintro x H4 ⟨rfl,R4,K4⟩;rw[ae];simp only[go_sem,Za,Zb,ae]at R4;simp only[go_sem,Za,Zb,ae,ZE,ZB,false_imp_iff,forall_const];refine(ht _ _ _ _ _ _ R4 (by omega) hl).mono ?_;rintro x H5 ⟨O5,o5,R5,K5⟩;rw[ae];rw[h3]at R5;simp only[go_sem,Za,Zb,ae];exact⟨R5,(K3.trans K4).trans K5⟩
def ew (P:Program) (k:FuncId):Prop:=∀(F:Nat->Prop) (r:Nat) (s:List UInt8×Int) (most:Nat) (H:Hp),jm F H r s.1 s.2->s.1.length<=100000000->most<=1000000000->an P k #[Z7 (ZV ⟨r,0,ZU⟩),Z8 ZY most] H fun x H'=>
 x=Z8 ZY (rdNum most s).1/\jm F H' r (rdNum most s).2.1 (rdNum most s).2.2/\af (fun k=>k=r) H H'
def FM (most:Nat) (s:List UInt8×Int):(rdNum most s).1<=most:=by
 unfold rdNum
 split
 ·omega
 ·split
  ·simp only;omega
  ·split
   ·simp only;omega
   ·simp only;omega
def adp (hk:ak P k (JT V) JU 2) (ho:ic P (V.f 109)) (hrf:jX P (V.f 110)) (hu:zo P (V.f 341)):ew P k:=by
 rintro F r ⟨l,e⟩ most H hr hl hm;refine ah hk (args:=[_,_]) (by simp) ?_;unfold JT JU kA kB kF kC kS kT kU kV kc kg kY;simp only at hr hl;simp only[go_sem,Za,Zb,ae];refine(ho _ _ _ _ _ hr).mono ?_;rintro x H1 ⟨rfl,rfl⟩;rw[ae]
 by_cases c:e=0
 case neg=>
  have e1:(e==0)=ZS:=by simpa using c
  have:rdNum most (l,e)=(0,(l,e)):=by unfold rdNum;rw[if_pos (by simpa using c)]
  simp only[go_sem,Za,Zb,ae,e1,this,ZB,ZE,false_imp_iff,forall_const];exact⟨hr,af.refl _ _⟩
 subst c;have uz:((0:Int)==0)=ZT:=rfl;have d1:ZQ ((most:Int)<0)=ZS:=decide_eq_false (by omega);simp-implicitDefEqProofs only[go_sem,↓reduceIte,Za,Zb,Zc,reduceCtorEq,ae,uz,d1,ZE,ZB,false_imp_iff,forall_const];refine(hrf _ _ _ _ _ _ hr).mono ?_;rintro x H2 ⟨rfl,R2,K2⟩;rw[ae];simp only[Bool.false_eq_true,if_false]at R2;have wm:IntKind.u64.wrap (most:Int)=(most:Int):=by rw[Y0];omega
 have hle:=FM most (l,0);have wv:IntKind.i64.wrap ((rdNum most (l,0)).1:Int)=((rdNum most (l,0)).1:Int):=ZN _ ⟨by omega,by omega⟩;simp only[go_sem,Za,Zb,ae,wm,ZE,ZB,false_imp_iff,forall_const];refine(hu F r (l,0) most H2 R2 hl hm).mono ?_;rintro x H3 ⟨rfl,R3,K3⟩;rw[ae];simp only[go_sem,Za,Zb,ae,wv];exact⟨R3,K2.trans K3⟩
def rk (P:Program) (k:FuncId):Prop:=∀(a b:List UInt8) (v w:ZR) (H:Hp),aP H v (w8 a)->aP H w (w8 b)->an P k #[v,w] H fun r H'=>r=.bool (ZQ (a=b))/\H'=H
def T3 (hk:ak P k (TY V) TZ 2):rk P k:=by
 intro a b v w H hv hw;refine ah hk (args:=[_,_]) (by simp) ?_;unfold TY TZ kA kB kC kU kY;simp only[go_sem,Za,Zb,ae,hv.bO,hw.bO,toBA_w8,Gn];exact⟨jC hv.bO,jC hw.bO⟩
def T4 (hk:ak P k (Dk V) Dl 2):rk P k:=by
 intro a b v w H hv hw;refine ah hk (args:=[_,_]) (by simp) ?_;unfold Dk Dl kA kB kC kU kY;simp only[go_sem,Za,Zb,ae,hv.bO,hw.bO,toBA_w8,Gn];exact⟨jC hv.bO,jC hw.bO⟩
open Classical in
noncomputable def dg (most:Nat) (s:List UInt8×Int):List UInt8×(List UInt8×Int):=
 if s.2≠0 then([],s)else if(bj 512 s).2.2≠0 then([],(bj 512 s).2)else if¬eZ (bj 512 s).1 then([],(s.1,6))else if∃n,bP (bj 512 s).1 n=ZT/\most<n then([],(s.1,2))else(bj 512 s)
def zq (most:Nat) (s:List UInt8×Int):(bj most s).1.length<=most:=by
 unfold bj
 split
 ·simp
 ·split
  ·simp
  ·split
   ·simp
   ·split
    ·simp
    ·simp only[List.length_take];omega
def gF (n:Nat):bP [] n=ZS:=lE (by simp)
def gG (P:Program) (k:FuncId):Prop:=∀(F:Nat->Prop) (r:Nat) (s:List UInt8×Int) (most:Nat) (H:Hp),jm F H r s.1 s.2->s.1.length<=100000000->most<=1000000000->an P k #[Z7 (ZV ⟨r,0,ZU⟩),Z8 ZY most] H fun x H'=>
 aR H' x (bP (dg most s).1)/\(∀q,jG x q->H.size<=q)/\jm F H' r (dg most s).2.1 (dg most s).2.2/\af (fun k=>k=r) H H'
def adq (hk:ak P k (JV V) JW 2) (ho:ic P (V.f 109)) (hb:mY P (V.f 114)) (hr0:MC P (V.f 339)) (hg:iG P (V.f 134)):gG P k:=by
 rintro F r ⟨l,e⟩ most H hr hl hm;refine qI fun Q hQ=>?_;refine ah hk (args:=[_,_]) (by simp) ?_;unfold JV JW kA kB kF kD kJ kM kQ kS kT kU kV kc kd kf kg kY kZ;simp only at hr hl;simp only[go_sem,Za,Zb,zF];refine ax fun H1 b4 e1 z1 B4 K1=>?_;have tU:Bl H1 b4 [Z6 ZU 0 0]:=B4;have s1:=K1.size;have hr1:=hr.ai K1 (by simp);have hF:=hr.bound
 -- the empty set is given back
 have empty:∀(A:Hp) (u:ZR),Bl A b4 [u]->af (fun q=>q=r) H1 A->(dg most (l,e)).1=[]->jm F A r (dg most (l,e)).2.1 (dg most (l,e)).2.2→
   (bG A ⟨b4,0,ZU⟩ 1/\bM #[Value.slice ZU 0 0])/\(aL (aB A ⟨b4,0,ZU⟩ [Z6 ZU 0 0]) (Z7 (ZV ⟨b4,0,ZU⟩)) 1).isSome=ZT/\Q (.agg ((aL (aB A ⟨b4,0,ZU⟩ [Z6 ZU 0 0]) (Z7 (ZV ⟨b4,0,ZU⟩)) 1).getD #[])) (aB A ⟨b4,0,ZU⟩ [Z6 ZU 0 0]):=fun A u B K h1 hR=>
  ur B (aU rfl) fun H' z' K'=>by
   rw[hQ];refine⟨?_,fun q hq=>?_,hR.ai K' fun q hq e=>by have:=hF q hq;omega,(K1.any.trans K).trans' K' fun q hq e=>by omega⟩
   ·rw[h1];exact(aR.empty _ ZU 0).congr fun n=>(gF n).symm
   ·simp[jG,aV]at hq
 simp only[go_sem,Za,Zb,zF];refine(ho _ _ _ _ _ hr1).mono ?_;rintro x A1 ⟨rfl,rfl⟩;rw[ae]
 by_cases c:e=0
 case neg=>
  have e1:(e==0)=ZS:=by simpa using c
  have:dg most (l,e)=([],(l,e)):=by unfold dg;rw[if_pos (by simpa using c)]
  simp only[go_sem,Za,Zb,ae,zF,e1,ZB,cR];exact empty A1 _ tU (af.refl _ _) (by rw[this]) (by rw[this];exact hr1)
 subst c;have uz:((0:Int)==0)=ZT:=rfl;have alK:=hr1;obtain⟨v,B,S,f1,f2,f3⟩:=alK;have c0:cell A1 ⟨r,0,ZU⟩=ZV v:=by rw[B.cell];rfl
 simp only[go_sem,Za,Zb,zF,uz,ZE,c0];refine(hb F r (l,0) 512 A1 hr1 hl (by omega)).mono ?_;rintro lv A2 ⟨O2,o2,R2,K2⟩;have hlen:=zq 512 (l,0);rw[ae];simp only[go_sem,Za,Zb,zF];refine(hr0 (bj 512 (l,0)).1 lv A2 O2.sl (by omega)).mono ?_;rintro x A3 ⟨hx,K3⟩;have mD:=K2.trans K3.any;have R3:=R2.ai K3 (by simp);have s13:=mD.size;obtain⟨sv,e7,rfl,hsv,pC⟩:∃sv e7,x=ZZ #[Z0 #[sv],Z8 ZY e7]/\(∃p,aR A3 (Z0 #[sv]) p)/\((e7=0/\eZ (bj 512 (l,0)).1/\aR A3 (Z0 #[sv]) (bP (bj 512 (l,0)).1)/\∀q,aV sv q->A2.size<=q)\/(e7=6/\¬eZ (bj 512 (l,0)).1)):=by
  rcases hx with⟨_,h2,sv,rfl,h4,h5⟩|⟨h1,rfl⟩
  ·exact⟨sv,0,rfl,⟨_,h4⟩,.inl ⟨rfl,h2,h4,h5⟩⟩
  ·exact⟨_,6,rfl,⟨_,aR.empty _ ZU 0⟩,.inr ⟨rfl,fun h=>h1 ⟨hlen,h⟩⟩⟩
 have one:sv.oneCell'=ZT:=by
  obtain⟨p,_,W,e,hV⟩:=hsv
  cases e
  exact aK hV.sl.aq
 rw[ae];simp only[go_sem,Za,Zb,zF];refine aO [sv] (by rfl) rfl rfl (by simp[one]) fun A4 b6 e6 z6 B6 K4=>?_;have F3:=mD.trans K4.any;have R4:=R3.ai K4 (by simp);have B44:=F3.bl tU (by have:=hF r f1;omega);simp only[go_sem,Za,Zb,zF];refine(ho _ _ _ _ _ R4).mono ?_;rintro x A5 ⟨rfl,rfl⟩;rw[ae]
 by_cases c2:(bj 512 (l,0)).2.2=0
 case neg=>
  have e1:((bj 512 (l,0)).2.2==0)=ZS:=by simpa using c2
  have:dg most (l,0)=([],(bj 512 (l,0)).2):=by unfold dg;rw[if_neg (by simp),if_pos c2]
  simp only[go_sem,Za,Zb,ae,zF,e1,ZB,cR];exact empty A5 _ B44 F3 (by rw[this]) (by rw[this];exact R4)
 have e1:((bj 512 (l,0)).2.2==0)=ZT:=by simpa using c2
 obtain⟨p,hp⟩:=hsv;simp only[go_sem,Za,Zb,zF,e1,ZE,B6.aL 1 rfl];refine(hg p _ A5 (hp.aj K4)).mono ?_;rintro x A6 ⟨hx6,K6⟩;have LU:=F3.trans K6.any;have R6:=R4.ai K6 (by simp);have B46:=K6.bl B44 id;have B66:=K6.bl B6 id
 -- the error e2 is set, and what was read is put back
 have back:∀(e2:Int) (g:Fr),g 0=Z7 (ZV ⟨r,0,ZU⟩)->∃u,Bl A6 r [u,Z8 ZY 0]/\(bw A6 (Z7 (ZV ⟨r,1,ZU⟩))/\bw (az A6 ⟨r,1,ZU⟩ (Z8 ZY e2)) (Z7 (ZV ⟨r,0,ZU⟩)))/\jm F (az (az A6 ⟨r,1,ZU⟩ (Z8 ZY e2)) ⟨r,0,ZU⟩ v) r l e2/\af (fun q=>q=r) A6 (az (az A6 ⟨r,1,ZU⟩ (Z8 ZY e2)) ⟨r,0,ZU⟩ v):=fun e2 g g0=>by
  obtain⟨u,Bu,Su,_⟩:=R6;rw[c2]at Bu;have k1:af (fun q=>q=r) A6 (az A6 ⟨r,1,ZU⟩ (Z8 ZY e2)):=(af.refl _ _).az _ (.inl rfl);have Bu2:=Bu.az 1 (Z8 ZY e2);have k2:af (fun q=>q=r) (az A6 ⟨r,1,ZU⟩ (Z8 ZY e2)) (az (az A6 ⟨r,1,ZU⟩ (Z8 ZY e2)) ⟨r,0,ZU⟩ v):=(af.refl _ _).az _ (.inl rfl);have KK:=k1.trans k2;refine⟨u,Bu,⟨Bu.bw (o:=1) (by simp),Bu2.bw (o:=0) (by simp)⟩,⟨v,Bu2.az 0 v,(S.ai LU fun q hq=>(f2 q hq).2).ai KK fun q hq=>(f2 q hq).2,f1,f2,fun q hq=>?_⟩,KK⟩;have:=f3 q hq;have:=LU.size;have:=KK.size;omega
 have v1:v.oneCell'=ZT:=aK S.aq;have t4:=fun(A:Hp) (K:af (fun q=>q=r) A6 A)=>K.bl B46 (show¬b4=r by have:=hF r f1;omega);rw[ae]
 -- what was read is no set, or too great
 have fail:∀(e2:Int),dg most (l,0)=([],(l,e2))->∃u,Bl A6 r [u,Z8 ZY 0]/\(bw A6 (Z7 (ZV ⟨r,1,ZU⟩))/\bw (az A6 ⟨r,1,ZU⟩ (Z8 ZY e2)) (Z7 (ZV ⟨r,0,ZU⟩)))∧
   ((bG (az (az A6 ⟨r,1,ZU⟩ (Z8 ZY e2)) ⟨r,0,ZU⟩ v) ⟨b4,0,ZU⟩ 1/\bM #[Value.slice ZU 0 0])/\(aL (aB (az (az A6 ⟨r,1,ZU⟩ (Z8 ZY e2)) ⟨r,0,ZU⟩ v) ⟨b4,0,ZU⟩ [Z6 ZU 0 0]) (Z7 (ZV ⟨b4,0,ZU⟩)) 1).isSome=ZT/\Q (.agg ((aL (aB (az (az A6 ⟨r,1,ZU⟩ (Z8 ZY e2)) ⟨r,0,ZU⟩ v) ⟨b4,0,ZU⟩ [Z6 ZU 0 0]) (Z7 (ZV ⟨b4,0,ZU⟩)) 1).getD #[])) (aB (az (az A6 ⟨r,1,ZU⟩ (Z8 ZY e2)) ⟨r,0,ZU⟩ v) ⟨b4,0,ZU⟩ [Z6 ZU 0 0])):=fun e2 he=>by
  obtain⟨u,Bu,oks,RR,KK⟩:=back e2 (fun _=>Z7 (ZV ⟨r,0,ZU⟩)) rfl;exact⟨u,Bu,oks,empty _ _ (t4 _ KK) (LU.trans KK) (by rw[he]) (by rw[he];exact RR)⟩
 rcases pC with⟨rfl,EJ,hS,hfr⟩|⟨rfl,EJ⟩
 ·have hS6:=hS.aj (K4.trans K6);have e70:((0:Int)!=0)=ZS:=rfl;have TC:∀n,p n=bP (bj 512 (l,0)).1 n:=fun n=>hp.TC hS n;have wg:(¬∃n,bP (bj 512 (l,0)).1 n=ZT/\most<n)->(bG A6 ⟨b4,0,ZU⟩ 1/\bM #[sv])/\(aL (aB A6 ⟨b4,0,ZU⟩ [sv]) (Z7 (ZV ⟨b4,0,ZU⟩)) 1).isSome=ZT/\Q (.agg ((aL (aB A6 ⟨b4,0,ZU⟩ [sv]) (Z7 (ZV ⟨b4,0,ZU⟩)) 1).getD #[])) (aB A6 ⟨b4,0,ZU⟩ [sv]):=fun hno=>
   ur B46 (aU (by simp[one])) fun H' z' K'=>by
    have he:dg most (l,0)=bj 512 (l,0):=by
     unfold dg;rw[if_neg (by simp),if_neg (by simpa using c2),if_neg (not_not_intro EJ),if_neg hno]
    have s2:=K2.size;rw[hQ,he];exact⟨hS6.ai K' fun q hq e=>by have:A2.size<=q:=hfr q hq;omega,fun q hq=>by have:A2.size<=q:=hfr q hq;omega,R6.ai K' fun q hq e=>by have:=hF q hq;omega,(K1.any.trans LU).trans' K' fun q hq e=>by omega⟩
  rcases hx6 with⟨rfl,hno⟩|⟨t,rfl,ht⟩
  ·simp only[go_sem,Za,Zb,ae,zF,e70,B66.aL 1 rfl,false_imp_iff,forall_const];exact wg fun⟨n,h1,_⟩=>by rw[<-TC,hno]at h1;cases h1
  ·by_cases Ac:(t:Int)>(most:Int)
   ·have d1:ZQ ((t:Int)>(most:Int))=ZT:=decide_eq_true Ac;obtain⟨u,Bu,oks,agM⟩:=fail 2 (by
     unfold dg;rw[if_neg (by simp),if_neg (by simpa using c2),if_neg (not_not_intro EJ),if_pos ⟨t,by rw[<-TC];exact ht.1,by omega⟩])
    simp only[go_sem,Za,Zb,ae]at oks;simp only[go_sem,Za,Zb,ae,zF,e70,d1,false_imp_iff,forall_const,oks,v1,cR];exact⟨v1,agM⟩
   ·have d1:ZQ ((t:Int)>(most:Int))=ZS:=decide_eq_false Ac;simp only[go_sem,Za,Zb,ae,zF,e70,d1,B66.aL 1 rfl,false_imp_iff,forall_const];exact wg fun⟨n,h1,h2⟩=>by
     rw[<-TC]at h1;have:=ht.2 n h1;omega
 ·have e70:((6:Int)!=0)=ZT:=rfl;obtain⟨u,Bu,oks,agM⟩:=fail 6 (by
   unfold dg;rw[if_neg (by simp),if_neg (by simpa using c2),if_pos EJ])
  simp only[go_sem,Za,Zb,ae]at oks;rcases hx6 with⟨rfl,hno⟩|⟨t,rfl,ht⟩
  all_goals
   simp only[go_sem,Za,Zb,ae,zF,e70,false_imp_iff,forall_const,oks,v1,cR];exact⟨v1,agM⟩
def Dm (V:aH):S:=
 kY [kC 2 (kZ)] (kY [kC 3 (Z8 ZY (-1))] (.seq (kY [kV 9 (.mv (.v 0)),kO 10 9,kC 11 (Z8 ZY 0)] (.blk 0 (.loop (kY [kH 12 11 10] (.seq (.ite (.v 12) .skip (.exit 0)) (.seq (.blk 1 (kY [kK 13 1 9 11,kD 14 13,kB 5 14] (kY [kA 15 5,kA 16 3,kV 17 (.cm .gtr ZY (.t 15) (.t 16))] (.ite (.v 17) (.reg [kA 18 5,kB 3 18]) .skip)))) (.reg [ke 19 11,kB 11 19]))))))) (.seq (kY [kA 20 3,kV 21 (.cm .lss ZY (.t 20) (.c (Z8 ZY 0)))] (.ite (.v 21) (kY [kC 2 (kZ)] .ret) .skip)) (kY [kA 22 3,kU 23 (.dv .quo ZY (.t 22) (.c (Z8 ZY 8))),kU 24 (.ar .add ZY (.t 23) (.c (Z8 ZY 1))),kc 25 (.rJ (V.t 19) 1 1 #[Z8 ZX 0] (.t 24) (.t 24)),kB 6 25] (.seq (kY [kV 26 (.mv (.v 0)),kO 27 26,kC 28 (Z8 ZY 0)] (.blk 2 (.loop (kY [kH 29 28 27] (.seq (.ite (.v 29) .skip (.exit 2)) (.seq (.blk 3 (kY [kK 30 1 26 28,kD 31 30,kB 8 31] (.reg [kA 32 6,kA 33 8,kU 34 (.dv .quo ZY (.t 33) (.c (Z8 ZY 8))),kA 35 6,kA 36 8,kU 37 (.dv .quo ZY (.t 36) (.c (Z8 ZY 8))),kI 38 1 35 37,kD 39 38,kA 40 8,kU 41 (.dv .rem ZY (.t 40) (.c (Z8 ZY 8))),kU 42 (.ii ZW (.t 41)),kU 43 (.sh .shl ZX (.c (Z8 ZX 1)) (.t 42)),kU 44 (.bt .or ZX (.t 39) (.t 43)),kI 45 1 32 34,kf (.st (.t 45) (.t 44))]))) (.reg [ke 46 28,kB 28 46]))))))) (kY [kA 47 6,kB 2 47] .ret))))))
def Dn:List RV:=[.t 2]
def tA (V:aH):S:=
 kY [kC 2 (kZ)] (kY [kA 3 0,kc 4 (kg (V.f 346) [.t 3]),kc 5 (kg (V.f 62) [.t 4]),kB 2 5] .ret)
def tB:List RV:=[.t 2]
def T5 (x y:UInt8):bits .or ZX (x.toNat:Int) (y.toNat:Int)=((x|||y).toNat:Int):=by
 have hb:∀z:UInt8,BitVec.ofInt 8 (z.toNat:Int)=z.toBitVec:=fun z=>by
  apply BitVec.eq_of_toNat_eq;simp
 show IntKind.u8.wrap ((BitVec.ofInt 8 (x.toNat:Int)|||BitVec.ofInt 8 (y.toNat:Int)).toNat:Int)=_
 rw[hb,hb];have:=(x|||y).toNat_lt
 show(((x|||y).toNat:Nat):Int) % 256=_
 omega
def agN:∀k:Fin 8,IntKind.u8.wrap (1*2^k.val)=((ZG (2^k.val)).toNat:Int):=by decide+kernel
def adr (x:UInt8) {k:Nat} (hk:k<8) (b:Nat):(x|||ZG (2^k)).toNat.testBit b=(x.toNat.testBit b||ZQ (b=k)):=by
 rw[UInt8.toNat_or,VH,YR,YF (Nat.pow_lt_pow_right (by omega) hk),Nat.testBit_two_pow]
 congr 1
 by_cases e:k=b
 ·subst e;simp
 ·have:b≠k:=fun h=>e h.symm;simp[e,this]
def T6 {m:Nat} (h:m/8<l.length) (n:Nat):bP (l.set (m/8) (l.getD (m/8) 0|||ZG (2^(m % 8)))) n=(bP l n||ZQ (n=m)):=by
 unfold bP
 by_cases e:n/8=m/8
 ·rw[e,ZP,List.getElem?_set_self h,Zu,adr _ (by omega)]
  congr 1
  rw[decide_eq_decide];omega
 ·rw[ZP,List.getElem?_set_ne (fun h=>e h.symm),<-ZP,decide_eq_false (show¬n=m by intro h;exact e (by rw[h])),Bool.or_false]
def zt (P:Program) (k:FuncId):Prop:=∀(ns:List Nat) (v:ZR) (H:Hp),aP H v (iN ns)->ns.length<=1000000->(∀n∈ns,n<4096)->an P k #[v] H fun r H'=>(∃l,br H' r (w8 l)/\eZ l/\(∀n,bP l n=ZQ (n∈ns))/\l.length<=512)/\(∀q,ay r q->H.size<=q)/\af (fun _=>False) H H'
def nf {ns:List Nat} (hi:i<ns.length) (n:Nat):n∈ns.take (i+1)↔n∈ns.take i\/n=ns[i]:=by
 rw[List.take_succ_eq_append_getElem hi,List.mem_append,List.mem_singleton]
def FN (hk:ak P k (Dm V) Dn 1):zt P k:=by
 intro ns v H hv hl hn;refine qI fun Q hQ=>?_;refine ah hk (args:=[_]) (by simp) ?_;unfold Dm Dn kA kB kC kD ke kH kI kK kO kU kV kc kf kY kZ;have hlen:aW v=ns.length:=by rw[hv.len,bH]
 have cell:∀i,(hi:i<ns.length)->∃b o c,v=Z6 (ZV ⟨b,o,ZU⟩) ns.length c/\∀A,af (fun _=>False) H A->cell A ⟨b,o+i,ZU⟩=ZV (Z8 ZY (ns[i]:Nat)):=fun i hi=>by
  obtain⟨b,o,c,rfl,_,hc⟩:=hv.cells (by intro e;have h:=congrArg Y8 e;rw[bH,Zx]at h;omega);rw[bH]at hc⊢;refine⟨b,o,c,rfl,fun A hA=>?_⟩;have:=(hv.ai hA (by simp)).pV (i:=i) (by rw[bH];exact hi);rw[this];simp[iN,iL,hi]
 simp only[go_sem,Za,Zb,zF,hv.aq,hlen];refine aF ns.length [12,5,17,3,11] rfl rfl (by omega) (by rfl) (by rfl) (fun i g A=>∃t:Int,g 3=Z8 ZY t/\-1<=t/\t<4096/\(∀n∈ns.take i,(n:Int)<=t)/\(t=-1\/∃n∈ns.take i,(n:Int)=t)/\A=H) ⟨-1,by simp only[go_sem,Za,Zb,ae],by omega,by omega,by simp,.inl rfl,rfl⟩ ?_ ?_
 ·rintro i g A hi gi gn ⟨t,g3,h1,h2,h3,h4,rfl⟩;simp only[go_sem,Za,Zb,ae]at gi gn g3;obtain⟨b,o,c,rfl,hc⟩:=cell i hi;have hci:=hc _ (af.refl _ _);have hni:=hn _ (ZL hi)
  by_cases Ac:((ns[i]:Nat):Int)>t
  ·have d1:ZQ (((ns[i]:Nat):Int)>t)=ZT:=decide_eq_true Ac;simp only[go_sem,Za,Zb,ae,zF,gi,g3,al,hci,d1];refine⟨by omega,_,rfl,by omega,by omega,fun n hn'=>?_,.inr ⟨ns[i],(nf hi _).2 (.inr rfl),rfl⟩⟩;rcases(nf hi _).1 hn' with h|h
   ·have:=h3 n h;omega
   ·rw[h];omega
  ·have d1:ZQ (((ns[i]:Nat):Int)>t)=ZS:=decide_eq_false Ac;simp only[go_sem,Za,Zb,ae,zF,gi,g3,al,hci,d1];refine⟨by omega,t,rfl,h1,h2,fun n hn'=>?_,?_⟩
   ·rcases(nf hi _).1 hn' with h|h
    ·exact h3 n h
    ·rw[h];omega
   ·rcases h4 with h|⟨n,h,e⟩
    ·exact .inl h
    ·exact .inr ⟨n,(nf hi _).2 (.inl h),e⟩
 ·rintro g A -⟨t,g3,h1,h2,h3,h4,rfl⟩;simp only[go_sem,Za,Zb,ae]at g3;rw[ZI]at h3 h4
  by_cases ht:t<0
  ·have d1:ZQ (t<0)=ZT:=decide_eq_true ht;have hne:ns=[]:=by
    cases ns with
    |nil=>rfl
    |cons a l=>have:=h3 a (by simp);omega
   subst hne;simp only[go_sem,Za,Zb,ae,zF,g3,d1];rw[hQ];exact⟨⟨[],br.nil _,fun h=>absurd rfl h,fun n=>by rw[gF];simp,by simp⟩,fun q h=>h.elim,af.refl _ _⟩
  ·have d1:ZQ (t<0)=ZS:=decide_eq_false ht;obtain⟨m,rfl⟩:=Int.eq_ofNat_of_zero_le (Int.not_lt.1 ht);have hm:m∈ns:=by
    rcases h4 with h|⟨n,h,e⟩
    ·omega
    ·have:n=m:=by omega
     rw[<-this];exact h
   have w0:∀m:Nat,m<=1000000->IntKind.i64.wrap (m:Int)=(m:Int):=fun m hm=>ZN _ (by omega);have q1:(m:Int).tdiv 8=((m/8:Nat):Int):=(XS m 8).symm;have w1:IntKind.i64.wrap (((m/8:Nat):Int)+1)=((m/8+1:Nat):Int):=by rw[ZN _ (by omega)];omega
   simp only[go_sem,Za,Zb,zF,g3,d1,q1,w0 (m/8) (by omega),w1];refine⟨by decide,⟨by omega,by omega,by unfold maxLen;omega⟩,?_⟩;refine aG fun H3 b3 e3 z3 B3 K3=>?_;rw[dx,PV]at B3;simp only[go_sem,Za,Zb,zF,al,hv.aq,hlen];refine aF ns.length [29,8,28] rfl rfl (by omega) (by rfl) (by rfl) (fun i g B=>∃l,Bl B b3 (w8 l)/\l.length=m/8+1/\(∀n,bP l n=ZQ (n∈ns.take i))/\af (fun q=>q=b3) H3 B) ⟨_,B3,by simp,fun n=>?_,af.refl _ _⟩ ?_ ?_
   ·unfold bP;have:(ZM (m/8+1) (0:UInt8)).getD (n/8) 0=0:=by
     rw[ZP,List.getElem?_replicate]
     split<;>rfl
    rw[this];simp
   ·rintro i g B hi gi gn ⟨l,Bl_,DT,hlb,KB⟩;simp only[go_sem,Za,Zb,ae]at gi gn;have KHB:af (fun _=>False) A B:=K3.trans' KB fun q hq e=>by omega
    obtain⟨b,o,c,rfl,hc⟩:=cell i hi;have hci:=hc _ KHB;have hni:=hn _ (ZL hi);have hle:=h3 _ (ZL hi);have q2:((ns[i]:Nat):Int).tdiv 8=((ns[i]/8:Nat):Int):=(XS _ 8).symm;have q3:((ns[i]:Nat):Int).tmod 8=((ns[i] % 8:Nat):Int):=ct _ 8;have w3:IntKind.u64.wrap ((ns[i] % 8:Nat):Int)=((ns[i] % 8:Nat):Int):=by rw[Y0];omega
    have lt:=Bl_.bw (o:=ns[i]/8) (by rw[aM];omega);have cw:Mg.cell B ⟨b3,ns[i]/8,ZU⟩=ZV (Z8 ZX (l.getD (ns[i]/8) 0).toNat):=by rw[Bl_.cell,k8 _ _ (by omega)]
    have sh:=agN ⟨ns[i] % 8,by omega⟩;simp only at sh;have hs:=Bl_.az (ns[i]/8) (Z8 ZX (l.getD (ns[i]/8) 0|||ZG (2^(ns[i] % 8))).toNat);rw[vx]at hs;simp only[go_sem,Za,Zb,ae,zF,gi,al,hci,q2,q3,w0 (ns[i]/8) (by omega),w3,lt,cw,sh,T5];refine⟨by omega,by decide,by decide,by omega,by decide,by omega,by omega,_,hs,by simpa using DT,fun n=>?_,KB.az (p:=⟨b3,ns[i]/8,ZU⟩) _ (.inl rfl)⟩;rw[T6 (by omega),hlb,Bool.eq_iff_iff];simp only[Bool.or_eq_true,decide_eq_true_eq,nf hi]
   ·rintro g B gi ⟨l,Bl_,DT,hlb,KB⟩;rw[ZI]at hlb;simp only[go_sem,Za,Zb,ae,zF];rw[hQ];refine⟨⟨l,br.new Bl_ (by rw[aM,DT]) rfl,eZ.mC fun _=>⟨m,by rw[hlb];exact decide_eq_true hm,by omega⟩,hlb,by omega⟩,fun q (hq:q=b3)=>by omega,K3.trans' KB fun q hq e=>by omega⟩
def ng (P:Program) (k:FuncId):Prop:=∀(ns:List Nat) (m:List UInt8) (v:ZR) (H:Hp),aP H v (iN ns)->ns.length<=1000000->(∀n∈ns,n<4096)->eZ m->(∀n,bP m n=ZQ (n∈ns))->an P k #[v] H fun r H'=>br H' r (w8 (du m))/\(∀q,ay r q->H.size<=q)/\af (fun _=>False) H H'
def xM (hk:ak P k (tA V) tB 1) (hs:zt P (V.f 346)) (hp:jV P (V.f 62)):ng P k:=by
 intro ns m v H hv hl hn hm hb;refine ah hk (args:=[_]) (by simp) ?_;unfold tA tB kA kB kC kc kg kY kZ;simp only[go_sem,Za,Zb,zF];refine(hs ns v H hv hl hn).mono ?_;rintro r H1 ⟨⟨l,O1,c1,b1,n1⟩,o1,K1⟩;have e2:l=m:=xL c1 hm fun n=>(b1 n).trans (hb n).symm;subst e2;have s1:=K1.size;rw[ae];simp only[go_sem,Za,Zb,zF];refine(hp l r H1 O1.sl (by omega)).mono ?_;rintro r2 H2 ⟨O2,o2,K2⟩;rw[ae];simp only[go_sem,Za,Zb,ae,zF];exact⟨O2,fun q hq=>by have:=o2 q hq;omega,K1.trans K2⟩
end Go.Mg
