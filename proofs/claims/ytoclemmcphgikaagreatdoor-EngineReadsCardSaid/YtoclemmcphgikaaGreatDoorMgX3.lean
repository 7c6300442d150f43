/- Lemmas of ours. No conditions. -/
import Derived.Test.YtoclemmcphgikaaGreatDoorMgVK
import Derived.Test.YtoclemmcphgikaaGreatDoorMgW2
open Nat renaming reduceEqDiff→Za,reduceAdd→Zb,reduceMul→Zc
set_option linter.all false
set_option maxRecDepth 100000
namespace Go.Mg
open Go Go.RowKit
def wz (ι:aG):S:=
 kY [kR 1 (ι.t 128) 0,kC 2 (kZ)] (kY [kM 8 1 1,.e (.t 9) (.call (ι.f 134) [.t 8]),kF 7 9,kQ 10 7 0,kQ 11 7 1,kB 3 10,kB 4 11] (.seq (kY [kA 12 4,kV 13 (.not (.t 12))] (.ite (.v 13) (kY [kC 2 (kZ)] .ret) .skip)) (kY [kA 14 3,kU 15 (.dv .quo .i64 (.t 14) (.c (.int .i64 8))),kU 16 (.ar .add .i64 (.t 15) (.c (.int .i64 1))),.e (.t 17) (.qf (ι.t 19) 1 1 #[.int .u8 0] (.t 16) (.t 16)),kB 5 17] (.seq (kY [kA 18 5,kV 19 (.m (.lenl (.t 18))),kC 20 (.int .i64 0)] (.blk 0 (.loop (kY [kH 21 20 19] (.seq (.ite (.v 21) .skip (.exit 0)) (.seq (.blk 1 (kY [kA 22 20,kB 6 22] (.reg [kA 23 5,kA 24 6,kG 25 0 1,kD 26 25,kA 27 6,kU 28 (.dv .quo .i64 (.t 27) (.c (.int .i64 8))),kI 29 1 26 28,kD 30 29,kA 31 6,kU 32 (.dv .rem .i64 (.t 31) (.c (.int .i64 8))),kU 33 (.ar .mul .i64 (.c (.int .i64 8)) (.t 32)),kU 34 (.sh .shr .u64 (.t 30) (.t 33)),kU 35 (.ii .u8 (.t 34)),kI 36 1 23 24,.e .no (.st (.t 36) (.t 35))]))) (.reg [ke 37 20,kB 20 37]))))))) (kY [kA 38 5,kB 2 38] .ret)))))
def wA:List RV:=[.t 2]
def Bx (ι:aG):S:=
 (kY [kA 25 0,kL 26 25,kU 27 (.ar .add .i64 (.t 26) (.c (.int .i64 7))),kU 28 (.dv .quo .i64 (.t 27) (.c (.int .i64 8))),.e (.t 29) (.qf (ι.t 28) 1 8 #[.int .u64 0] (.t 28) (.t 28)),kB 4 29] (.seq (kY [kV 30 (.mv (.v 0)),kO 31 30,kC 32 (.int .i64 0)] (.blk 0 (.loop (kY [kH 33 32 31] (.seq (.ite (.v 33) .skip (.exit 0)) (.seq (.blk 1 (kY [kA 34 32,kK 35 1 30 32,kD 36 35,kB 5 34,kB 6 36] (.reg [kA 37 4,kA 38 5,kU 39 (.dv .quo .i64 (.t 38) (.c (.int .i64 8))),kI 40 1 37 39,kD 41 40,kA 42 6,kU 43 (.ii .u64 (.t 42)),kA 44 5,kU 45 (.dv .rem .i64 (.t 44) (.c (.int .i64 8))),kU 46 (.ar .mul .i64 (.c (.int .i64 8)) (.t 45)),kU 47 (.sh .shl .u64 (.t 43) (.t 46)),kU 48 (.bt .or .u64 (.t 41) (.t 47)),kI 49 1 37 39,.e .no (.st (.t 49) (.t 48))]))) (.reg [ke 50 32,kB 32 50]))))))) (kY [kA 51 4,kU 52 (.m (.bld #[kZ] [(0,(1,.t 51))])),.e .no (.stn 1 (.v 2) (.t 52)),kC 3 (.int .i64 0)] .ret)))
def By (ι:aG):S:=
 kY [.e (.v 2) (.new (ι.t 128) #[kZ]),kC 3 (.int .i64 0)] (.seq (kY [kA 7 0,kL 8 7,kU 9 (.cm .gtr .i64 (.t 8) (.c (.int .i64 512))),kF 10 9,kS 11 10 false 0,kT 12 10 false (.m (.lenl (.t 11))),kT 13 10 false (.cm .gtr .i64 (.t 12) (.c (.int .i64 0))),kT 14 10 false (.mv (.t 13)),kS 15 14 true 0,kS 16 14 true 0,kT 17 14 true (.m (.lenl (.t 16))),kT 18 14 true (.ar .sub .i64 (.t 17) (.c (.int .i64 1))),kT 19 14 true (.is 1 (.t 15) (.t 18)),kT 20 14 true (.ld (.t 19)),kT 21 14 true (.cm .eql .u8 (.t 20) (.c (.int .u8 0))),kT 22 10 false (.pick (.t 14) (.t 21) (.c (.bool false))),kV 23 (.pick (.t 10) (.c (.bool true)) (.t 22))] (.ite (.v 23) (kY [kU 24 (.m (.bld #[kZ] [])),.e .no (.stn 1 (.v 2) (.t 24)),kC 3 (.int .i64 6)] .ret) .skip)) (Bx ι))
def mJ:List RV:=[.cn 2 1,.t 3]
def bH (l:List UInt8) (n:Nat):Bool:=(l.getD (n/8) 0).toNat.testBit (n % 8)
def eo (l:List UInt8):Prop:=∀h:l≠[],l.getLast h≠0
variable {l:List UInt8} {x:UInt8} {k:FuncId} {i:Nat} {P:Program} {ι:aG}
theorem jZ {n:Nat} (h:8*l.length<=n):bH l n=false:=by
 unfold bH;rw[List.getD_eq_getElem?_getD,List.getElem?_eq_none (by omega)];simp
theorem BC (l:List UInt8) (k b:Nat) (hb:b<8):bH l (8*k+b)=(l.getD k 0).toNat.testBit b:=by
 unfold bH;rw[show(8*k+b)/8=k by omega,show(8*k+b) % 8=b by omega]
theorem Q7 {y:UInt8} (h:∀b<8,x.toNat.testBit b=y.toNat.testBit b):x=y:=by
 apply UInt8.toNat_inj.1;apply Nat.eq_of_testBit_eq;intro k
 by_cases hk:k<8
 ·exact h k hk
 ·have e:∀z:UInt8,z.toNat.testBit k=false:=fun z=>Nat.testBit_lt_two_pow (Nat.lt_of_lt_of_le z.toNat_lt (Nat.pow_le_pow_right (n:=2) (by omega) (show 8<=k by omega)));rw[e,e]
theorem aay (h:x≠0):∃b<8,x.toNat.testBit b=true:=by
 apply Classical.byContradiction;intro hn;refine h (Q7 fun b hb=>?_)
 cases e:x.toNat.testBit b with
 |false=>simp
 |true=>exact absurd ⟨b,hb,e⟩ hn
theorem eo.top (h:eo l) (hl:l≠[]):∃n,bH l n=true/\8*(l.length -1)<=n/\n<8*l.length:=by
 have hp:0<l.length:=List.length_pos_iff.2 hl;have h1:=h hl;rw[List.getLast_eq_getElem]at h1;obtain⟨b,hb,e⟩:=aay h1;refine⟨8*(l.length -1)+b,?_,by omega,by omega⟩;rw[BC _ _ _ hb,List.getD_eq_getElem?_getD,List.getElem?_eq_getElem (by omega)];exact e
theorem eo.lE (h:l≠[]->∃n,bH l n=true/\8*(l.length -1)<=n):eo l:=fun hl e=>by
 obtain⟨n,h1,h2⟩:=h hl;have hp:0<l.length:=List.length_pos_iff.2 hl;rw[List.getLast_eq_getElem]at e
 by_cases hn:n<8*l.length
 ·unfold bH at h1;rw[show n/8=l.length -1 by omega,List.getD_eq_getElem?_getD,List.getElem?_eq_getElem (by omega),Option.getD_some,e]at h1;simp at h1
 ·rw[jZ (by omega)]at h1;cases h1
theorem Em {m:List UInt8} (hl:eo l) (hm:eo m) (h:∀n,bH l n=bH m n):l=m:=by
 have le:∀{l m:List UInt8},eo l->(∀n,bH l n=bH m n)->l.length<=m.length:=fun{l m} hl h=>by
  apply Classical.byContradiction;intro hc;obtain⟨n,h1,h2,h3⟩:=hl.top (by intro e;subst e;simp at hc);rw[h,jZ (by omega)]at h1
  cases h1
 have hlen:l.length=m.length:=Nat.le_antisymm (le hl h) (le hm fun n=>(h n).symm);refine List.ext_getElem hlen fun i h1 h2=>Q7 fun b hb=>?_;have:=h (8*i+b);rw[BC _ _ _ hb,BC _ _ _ hb,List.getD_eq_getElem?_getD,List.getElem?_eq_getElem h1,List.getD_eq_getElem?_getD,List.getElem?_eq_getElem h2]at this;exact this
def ME (W:List UInt64) (k:Nat):List UInt8:=(List.range k).map fun i=>UInt8.ofNat ((W.getD (i/8) 0).toNat/2^(8*(i % 8)) % 256)
theorem fC (W:List UInt64) (k:Nat):(ME W k).length=k:=by simp[ME]
theorem VQ (W:List UInt64) {k:Nat} (h:i<k):(ME W k).getD i 0=UInt8.ofNat ((W.getD (i/8) 0).toNat/2^(8*(i % 8)) % 256):=by
 simp[ME,h]
theorem JR (W:List UInt64) (k n:Nat) (h:n<8*k):bH (ME W k) n=bY W n:=by
 unfold bH bY bt;rw[VQ W (show n/8<k by omega),UInt8.toNat_ofNat',show 2^8=256 by rfl,Nat.mod_mod];have e:(256:Nat)=2^8:=rfl;rw[e,Nat.testBit_mod_two_pow,Nat.testBit_div_two_pow,decide_eq_true (show n % 8<8 by omega),Bool.true_and];rw[show n/8/8=n/64 by omega,show n % 8+8*(n/8 % 8)=n % 64 by omega]
def En (P:Program) (k:FuncId):Prop:=∀(p:Nat->Bool) (x:Value) (H:Hp),aQ H x p->an P k #[x] H fun r H'=>(∃l,bq H' r (w8 l)/\eo l/\(∀n,bH l n=p n)/\l.length<=512)/\(∀q,ax r q->H.size<=q)/\af (fun _=>False) H H'
theorem Mi (hk:al P k (wz ι) wA 1) (hg:gX P (ι.f 134)):En P k:=by
 intro p x H hx;refine qI fun Q hQ=>?_;have hx0:=hx;obtain⟨v,W,rfl,hv⟩:=hx;refine ah hk (args:=[_]) (by simp) ?_;unfold wz wA kA kB kF kC kD ke kG kH kI kM kQ kR kU kV kY kZ;simp only[go_sem,Za,Zb,zF];refine ay fun H1 b1 e1 z1 B1 K1=>?_;have bQ:Bl H1 b1 [v]:=B1;have s1:=K1.size;simp only[go_sem,Za,Zb,zF,bQ.aM 1 rfl];refine(hg p _ H1 (hx0.aj K1)).mono ?_;rintro r H2 ⟨hr,K2⟩;have B2:=K2.bl bQ (by simp);have fk:=K1.trans K2;rw[ae];rcases hr with⟨rfl,hp⟩|⟨t,rfl,ht⟩
 ·simp only[go_sem,Za,Zb,ae,zF,Bool.not_false];rw[hQ];exact⟨⟨[],bq.nil _,fun h=>absurd rfl h,fun n=>by rw[hp,jZ (by simp)],by simp⟩,fun q h=>h.elim,fk⟩
 ·have htl:=hv.lt ht.1;have hlen:=hv.len;have ht4:t<4096:=by omega
  have q1:(t:Int).tdiv 8=((t/8:Nat):Int):=(Int.ofNat_tdiv t 8).symm;have w0:∀m:Nat,m<=1000000->IntKind.i64.wrap (m:Int)=(m:Int):=fun m hm=>IntWalk.i64_in _ (by omega);have w1:IntKind.i64.wrap (((t/8:Nat):Int)+1)=((t/8+1:Nat):Int):=by rw[IntWalk.i64_in _ (by omega)];omega
  simp only[go_sem,Za,Zb,zF,Bool.not_true,q1,w0 (t/8) (by omega),w1];refine⟨by decide,⟨by omega,by omega,by unfold maxLen;omega⟩,?_⟩;refine aF fun H3 b3 e3 z3 B3 K3=>?_;rw[cT,Nf]at B3;have s2:=K2.size;have lF:=fk.trans K3;simp only[go_sem,Za,Zb,zF,ak];refine aD (t/8+1) [21,6,20] rfl rfl (by omega) (by rfl) (by rfl) (fun i g A=>Bl A b3 (w8 (ME W i++List.replicate (t/8+1 -i) 0))/\af (fun q=>q=b3) H3 A) ⟨B3,af.refl _ _⟩ ?_ ?_
  ·rintro i g A hi gi gn ⟨BA,KA⟩;simp only[go_sem,Za,Zb,ae]at gi gn;have q2:(i:Int).tdiv 8=((i/8:Nat):Int):=(Int.ofNat_tdiv i 8).symm;have q3:(i:Int).tmod 8=((i % 8:Nat):Int):=cg i 8;have w2:IntKind.i64.wrap (8*((i % 8:Nat):Int))=((8*(i % 8):Nat):Int):=by rw[IntWalk.i64_in _ (by omega)];omega
   have KHA:af (fun _=>False) H A:=lF.trans' KA fun q hq e=>by omega
   have hvA:=hv.ai KHA (by simp);have hW:i/8<W.length:=by omega
   obtain⟨wb,wo,wc,rfl,hwc,hcell⟩:=hvA.sl.cells (by intro e;have h:=congrArg List.length e;rw[aH,List.length_nil]at h;omega);rw[aH]at hcell hwc;have hc:=hcell (i/8) hW;rw[dT _ _ hW]at hc;have Ov:=KA.bl ((K2.trans K3).bl bQ (by simp)) (by omega);have c0:cell A ⟨b1,0,none⟩=some (.slice (some ⟨wb,wo,none⟩) W.length wc):=by rw[Ov.cell,aH];rfl
   have lt:=BA.bu (o:=i) (by rw[aK,List.length_append,fC,List.length_replicate];omega);have wb8:IntKind.u8.wrap (((W.getD (i/8) 0).toNat:Int)/2^(8*(i % 8)))=((UInt8.ofNat ((W.getD (i/8) 0).toNat/2^(8*(i % 8)) % 256)).toNat:Int):=by
    have e:(((W.getD (i/8) 0).toNat:Int)/2^(8*(i % 8)))=(((W.getD (i/8) 0).toNat/2^(8*(i % 8)):Nat):Int):=by simp
    rw[e,UInt8.toNat_ofNat'];generalize(W.getD (i/8) 0).toNat/2^(8*(i % 8))=z
    show(z:Int) % 256=_
    omega
   simp only[go_sem,Za,Zb,zF,gi,q2,q3,w0 (i/8) (by omega),w2,c0,ak,hc,lt,wb8];refine⟨by decide,by omega,by decide,by omega,by omega,?_⟩;rw[ae];simp only[go_sem,Za,Zb,ae,zF];have hs:=BA.az i (.int .u8 (UInt8.ofNat ((W.getD (i/8) 0).toNat/2^(8*(i % 8)) % 256)).toNat);rw[yt]at hs;refine⟨?_,KA.az _ (.inl rfl)⟩;have e:(ME W i++List.replicate (t/8+1 -i) 0).set i (UInt8.ofNat ((W.getD (i/8) 0).toNat/2^(8*(i % 8)) % 256))=ME W (i+1)++List.replicate (t/8+1 -(i+1)) 0:=by
    rw[List.set_append,if_neg (by rw[fC];omega),fC,Nat.sub_self,show t/8+1 -i=(t/8+1 -(i+1))+1 by omega,List.replicate_succ,List.set_cons_zero];rw[ME,ME,List.range_succ,List.map_append,List.append_assoc]
    rfl
   rw[<-e];exact hs
  ·rintro g A gi ⟨BA,KA⟩;simp only[go_sem,Za,Zb,ae,zF];rw[hQ];rw[Nat.sub_self,List.replicate_zero,List.append_nil]at BA;have bt1:=JR W (t/8+1);refine⟨⟨ME W (t/8+1),bq.new BA (by rw[aK,fC]) rfl,eo.lE fun _=>⟨t,by rw[bt1 t (by omega),hv.is];exact ht.1,by rw[fC];omega⟩,fun n=>?_,by rw[fC];omega⟩,fun q (hq:q=b3)=>by omega,lF.trans' KA fun q hq e=>by omega⟩
   by_cases hn:n<8*(t/8+1)
   ·rw[bt1 n hn,hv.is]
   ·rw[jZ (by rw[fC];omega)]
    cases e:p n with
    |false=>rfl
    |true=>have:=ht.2 n e;omega
def wdI (l:List UInt8) (i:Nat) (W:List UInt64):Prop:=W.length=(l.length+7)/8/\∀n,bY W n=(decide (n<8*i)&&bH l n)
theorem afg (x:UInt8) (k:Nat) (hk:k<8):IntKind.u64.wrap (IntKind.u64.wrap (x.toNat:Int)*2^(8*k))=((UInt64.ofNat (x.toNat*2^(8*k))).toNat:Int):=by
 have hx:=x.toNat_lt;have e1:IntKind.u64.wrap (x.toNat:Int)=(x.toNat:Int):=by
  show(x.toNat:Int) % 18446744073709551616=_
  omega
 have hp:2^(8*k)<=2^56:=Nat.pow_le_pow_right (by omega) (by omega);have hle:x.toNat*2^(8*k)<18446744073709551616:=by
  have:=Nat.mul_le_mul (show x.toNat<=255 by omega) hp;omega
 rw[e1,UInt64.toNat_ofNat',Nat.mod_eq_of_lt hle]
 show((x.toNat:Int)*2^(8*k)) % 18446744073709551616=_
 have e2:(x.toNat:Int)*2^(8*k)=((x.toNat*2^(8*k):Nat):Int):=by simp
 rw[e2];omega
theorem VR (w:UInt64) (x:UInt8) (k b:Nat) (hk:k<8):bt (w|||UInt64.ofNat (x.toNat*2^(8*k))) b=(bt w b||(decide (8*k<=b)&&x.toNat.testBit (b -8*k))):=by
 have hx:=x.toNat_lt;have hp:2^(8*k)<=2^56:=Nat.pow_le_pow_right (by omega) (by omega);have hle:x.toNat*2^(8*k)<18446744073709551616:=by
  have:=Nat.mul_le_mul (show x.toNat<=255 by omega) hp;omega
 unfold bt;rw[UInt64.toNat_or,Nat.testBit_or,UInt64.toNat_ofNat',Nat.mod_eq_of_lt hle,Nat.testBit_mul_two_pow]
theorem Q8 {W:List UInt64} (h:wdI l i W) (hi:i<l.length):wdI l (i+1) (W.set (i/8) (W.getD (i/8) 0|||UInt64.ofNat ((l.getD i 0).toNat*2^(8*(i % 8))))):=by
 obtain⟨h1,h2⟩:=h;refine⟨by simpa using h1,fun n=>?_⟩;rw[uG W _ (by omega)]
 by_cases hn:n/64=i/8
 ·have e0:=h2 n;unfold bY at e0;rw[hn]at e0;rw[if_pos hn,VR _ _ _ _ (by omega),e0]
  by_cases hb:n/8=i
  ·have e3:bH l n=(l.getD i 0).toNat.testBit (n % 8):=by unfold bH;rw[hb]
   rw[decide_eq_false (show¬n<8*i by omega),decide_eq_true (show n<8*(i+1) by omega),decide_eq_true (show 8*(i % 8)<=n % 64 by omega),show n % 64 -8*(i % 8)=n % 8 by omega,e3];simp
  ·by_cases hlt:n<8*i
   ·rw[decide_eq_true hlt,decide_eq_true (show n<8*(i+1) by omega),decide_eq_false (show¬8*(i % 8)<=n % 64 by omega)];simp
   ·rw[decide_eq_false hlt,decide_eq_false (show¬n<8*(i+1) by omega)];have:(l.getD i 0).toNat.testBit (n % 64 -8*(i % 8))=false:=by
     have hx:=(l.getD i 0).toNat_lt;exact Nat.testBit_lt_two_pow (Nat.lt_of_lt_of_le hx (Nat.pow_le_pow_right (n:=2) (by omega) (show 8<=n % 64 -8*(i % 8) by omega)))
    rw[this];simp
 ·rw[if_neg hn,h2]
  by_cases hlt:n<8*i
  ·rw[decide_eq_true hlt,decide_eq_true (show n<8*(i+1) by omega)]
  ·rw[decide_eq_false hlt,decide_eq_false (show¬n<8*(i+1) by omega)]
def JS (P:Program) (k:FuncId):Prop:=∀(l:List UInt8) (v:Value) (H:Hp),aO H v (w8 l)->l.length<=100000000->an P k #[v] H fun r H'=>((l.length<=512/\eo l/\∃x,r=.tuple #[.agg #[x],.int .i64 0]/\aQ H' (.agg #[x]) (bH l)/\∀q,aT x q->H.size<=q)\/(¬(l.length<=512/\eo l)/\r=.tuple #[.agg #[.slice none 0 0],.int .i64 6]))/\af (fun _=>False) H H'
theorem VS {f:Fr} {A:Hp} {b2:Nat} {v:Value} {Q:Value->Hp->Prop} (h0:f 0=v) (h2:f 2=.pointer (some ⟨b2,0,none⟩)) (B2:Bl A b2 [.slice none 0 0]) (hv:aO A v (w8 l)) (hb2:∀q,aT v q->q≠b2) (hl:l.length<=512) (hc:eo l)
  (hK:∀A' x,aQ A' (.agg #[x]) (bH l)->(∀q,aT x q->A.size<=q)->af (fun q=>q=b2) A A'->Q (.tuple #[.agg #[x],.int .i64 0]) A'):vc P (Bx ι) (mM mJ Q) f A:=by
 unfold Bx mJ kA kB kC kD ke kH kI kK kL kO kU kV kY kZ;have w0:∀m:Nat,m<=1000000->IntKind.i64.wrap (m:Int)=(m:Int):=fun m hm=>IntWalk.i64_in _ (by omega);have w1:IntKind.i64.wrap ((l.length:Int)+7)=((l.length+7:Nat):Int):=by rw[IntWalk.i64_in _ (by omega)];omega
 have q1:((l.length+7:Nat):Int).tdiv 8=(((l.length+7)/8:Nat):Int):=(Int.ofNat_tdiv _ 8).symm;have s2:=B2.lt;simp only[go_sem,Za,Zb,zF,h0,hv.aq,hv.len,aK,w1,q1,w0 ((l.length+7)/8) (by omega)];refine⟨by decide,⟨by omega,by omega,by unfold maxLen;omega⟩,?_⟩;refine aF fun H3 b3 e3 z3 B3 K3=>?_;rw[cT,oI]at B3;simp only[go_sem,Za,Zb,zF,ak,h0,hv.aq,hv.len,aK];refine aD l.length [33,5,6,32] rfl rfl (by omega) (by rfl) (by rfl) (fun i g B=>∃W,Bl B b3 (cN W)/\wdI l i W/\af (fun q=>q=b3) H3 B) ⟨_,B3,⟨by simp,fun n=>?_⟩,af.refl _ _⟩ ?_ ?_
 ·have:bY (List.replicate ((l.length+7)/8) 0) n=false:=by
   have:=uH [] ((l.length+7)/8) n;rw[List.nil_append]at this;rw[this,fz (by simp)]
  rw[this,decide_eq_false (by omega),Bool.false_and]
 ·rintro i g B hi gi gn ⟨W,BW,hW,KB⟩;simp only[go_sem,Za,Zb,ae]at gi gn;have KAB:af (fun _=>False) A B:=K3.trans' KB fun q hq e=>by omega
  have hvB:=hv.ai KAB (by simp);obtain⟨vb,vo,vc',rfl,hvc,hcell⟩:=hvB.cells (by intro e;have h:=congrArg List.length e;rw[aK,List.length_nil]at h;omega);rw[aK]at hcell hvc;have hci:=hcell i hi;rw[jH _ _ hi]at hci;have q2:(i:Int).tdiv 8=((i/8:Nat):Int):=(Int.ofNat_tdiv i 8).symm;have q3:(i:Int).tmod 8=((i % 8:Nat):Int):=cg i 8;have w2:IntKind.i64.wrap (8*((i % 8:Nat):Int))=((8*(i % 8):Nat):Int):=by rw[IntWalk.i64_in _ (by omega)];omega
  have hWl:=hW.1;have lt:=BW.bu (o:=i/8) (by rw[aH];omega);have cw:cell B ⟨b3,i/8,none⟩=some (.int .u64 (W.getD (i/8) 0).toNat):=by rw[BW.cell,dT _ _ (by omega)]
  have hs:=BW.az (i/8) (.int .u64 (W.getD (i/8) 0|||UInt64.ofNat ((l.getD i 0).toNat*2^(8*(i % 8)))).toNat);rw[mz _ _ (by omega)]at hs;simp only[go_sem,Za,Zb,ae,zF,gi,q2,q3,w0 (i/8) (by omega),w2,ak,hci,lt,cw,afg _ _ (show i % 8<8 by omega),sQ,aK];refine⟨by omega,by decide,by omega,by decide,by omega,?_⟩;exact⟨by omega,_,hs,Q8 hW hi,KB.az (p:=⟨b3,i/8,none⟩) _ (.inl rfl)⟩
 ·rintro g B gi ⟨W,BW,hW,KB⟩;have XI:∀n,bY W n=bH l n:=fun n=>by
   rw[hW.2]
   by_cases hn:n<8*l.length
   ·rw[decide_eq_true hn,Bool.true_and]
   ·rw[decide_eq_false hn,Bool.false_and,jZ (by omega)]
  have K3B:af (fun _=>False) A B:=K3.trans' KB fun q hq e=>by omega
  have hWl:=hW.1;have Dj:Can W:=Can.lE fun hne=>by
   have hl0:l≠[]:=by
    intro e;subst e;exact hne (List.eq_nil_of_length_eq_zero (by simpa using hWl))
   obtain⟨n,t1,t2,t3⟩:=hc.top hl0;exact⟨n,by rw[XI];exact t1,by omega⟩
  have BA:=K3B.bl B2 (by simp);have t2:=BA.bM (o:=0) (n:=1) (by simp);have L:=BA.aB 0 [.slice (some ⟨b3,0,none⟩) ((l.length+7)/8) ((l.length+7)/8)];rw[oy _ _ (by simp)]at L;have KL:af (fun q=>q=b2) B (aB B ⟨b2,0,none⟩ [.slice (some ⟨b3,0,none⟩) ((l.length+7)/8) ((l.length+7)/8)]):=(af.refl _ _).aB _ (.inl rfl);have hS:aO B (.slice (some ⟨b3,0,none⟩) ((l.length+7)/8) ((l.length+7)/8)) (cN W):=by
   have:=aO.bl BW 0 W.length W.length (by omega) (by rw[aH];omega);rw[List.drop_zero,<-aH W,List.take_length,aH,hWl]at this;exact this
  simp only[go_sem,Za,Zb,ae,zF,h2,t2,nu,cD,L.aM 1 rfl];refine⟨bd rfl,hK _ _ ⟨_,W,rfl,hS.ai KL fun q hq e=>?_,by omega,Dj,XI⟩ (fun q hq=>?_) (K3B.any.trans KL)⟩
  ·have:q=b3:=hq.1;omega
  ·have:q=b3:=hq.1;omega
theorem Q9 (hk:al P k (By ι) mJ 1):JS P k:=by
 intro l v H hv hl;refine qI fun Q hQ=>?_;refine ah hk (args:=[_]) (by simp) ?_;unfold By kA kF kC kL kS kT kU kV kY kZ;have hr:mJ=[.cn 2 1,.t 3]:=rfl;simp only[go_sem,Za,Zb,zF];refine ay fun H1 b2 e1 z1 B2 K1=>?_;have km:Bl H1 b2 [.slice none 0 0]:=B2;have hv1:=hv.ai K1 (by simp);have nb:∀q,aT v q->q≠b2:=fun q hq e=>by have:=hv.bj hq;omega
 have s1:=K1.size;have t2:=km.bM (o:=0) (n:=1) (by simp);have L:=km.aB 0 [.slice none 0 0];rw[oy _ _ (by simp)]at L;have KL:af (fun q=>q=b2) H1 (aB H1 ⟨b2,0,none⟩ [.slice none 0 0]):=(af.refl _ _).aB _ (.inl rfl);have bad:¬(l.length<=512/\eo l)->bO #[Value.slice none 0 0]/\Q (.tuple #[.agg #[.slice none 0 0],.int .i64 6]) (aB H1 ⟨b2,0,none⟩ [.slice none 0 0]):=fun h=>⟨bd rfl,by
  rw[hQ];exact⟨.inr ⟨h,rfl⟩,K1.trans' KL fun q hq e=>by omega⟩⟩
 have uP:l.length<=512->eo l->∀f:Fr,f 0=v->f 2=.pointer (some ⟨b2,0,none⟩)->vc P (Bx ι) (mM mJ Q) f H1:=fun h1 h2 f f0 f2=>VS f0 f2 km hv1 nb h1 h2 fun A' x S o K=>by
  rw[hQ];exact⟨.inl ⟨h1,h2,x,rfl,S,fun q hq=>by have:=o q hq;omega⟩,K1.trans' K fun q hq e=>by omega⟩
 by_cases af3:512<l.length
 ·have d1:decide ((l.length:Int)>512)=true:=decide_eq_true (by omega);rw[hr];simp only[go_sem,Za,Zb,ae,zF,hv.aq,hv.len,aK,d1,false_imp_iff,forall_const,t2,cD,L.aM 1 rfl];exact bad fun h=>by omega
 have d1:decide ((l.length:Int)>512)=false:=decide_eq_false (by omega)
 by_cases h0:l=[]
 ·subst h0;have d1:decide ((0:Int)>512)=false:=rfl;have d2:decide ((0:Int)>0)=false:=rfl;have e0:(((0:Nat):Int))=0:=rfl;simp only[go_sem,Za,Zb,ae,zF,hv.aq,hv.len,aK,e0,d1,d2,Bool.not_false,false_imp_iff,forall_const];exact uP (by simp) (fun h=>absurd rfl h) _ (by rfl) (by rfl)
 have abp:0<l.length:=List.length_pos_iff.2 h0;have d2:decide ((l.length:Int)>0)=true:=decide_eq_true (by omega);obtain⟨vb,vo,vc',rfl,hvc,hcell⟩:=hv1.cells (by intro e;have h:=congrArg List.length e;rw[aK,List.length_nil]at h;omega);rw[aK]at hcell hvc hv1 uP;have hci:=hcell (l.length -1) (by omega);rw[jH _ _ (by omega)]at hci;have w1:IntKind.i64.wrap ((l.length:Int) -1)=((l.length -1:Nat):Int):=by rw[IntWalk.i64_in _ (by omega)];omega
 have hlast:l.getLast h0=l.getD (l.length -1) 0:=by rw[List.getLast_eq_getElem,List.getD_eq_getElem?_getD,List.getElem?_eq_getElem (by omega)];rfl
 by_cases hz:l.getD (l.length -1) 0=0
 ·have d3:(((l.getD (l.length -1) 0).toNat:Int)==0)=true:=by rw[hz];rfl
  rw[hr];simp only[go_sem,Za,Zb,ae,zF,aK,d1,d2,d3,w1,ak,hci,false_imp_iff,forall_const,t2,cD,L.aM 1 rfl];exact⟨by omega,bad fun h=>h.2 h0 (hlast.trans hz)⟩
 ·have d3:(((l.getD (l.length -1) 0).toNat:Int)==0)=false:=by
   rw[beq_eq_false_iff_ne];intro e;exact hz (UInt8.toNat_inj.1 (by rw[show(0:UInt8).toNat=0 by rfl];omega))
  simp only[go_sem,Za,Zb,ae,zF,aK,d1,d2,d3,w1,ak,hci,false_imp_iff,forall_const];exact⟨by omega,uP (by omega) (fun h=>by rw[hlast];exact hz) _ (by rfl) (by rfl)⟩
end Go.Mg
namespace Go.Mg
open Go Go.RowKit
def HQ (ι:aG):S:=
 kY [kR 3 (ι.t 128) 1] (.reg [kA 4 0,kM 5 1 3,.e (.t 6) (.call (ι.f 338) [.t 5]),.e (.t 7) (.call (ι.f 58) [.t 4,.t 6])])
def HR:List RV:=[]
def BD (ι:aG):S:=
 kY [kC 4 (.int .u64 0)] (.seq (kY [kA 7 0,.e (.t 8) (.call (ι.f 109) [.t 7]),kV 9 (.not (.t 8))] (.ite (.v 9) (kY [kC 4 (.int .u64 0)] .ret) .skip)) (kY [kA 11 0,.e (.t 12) (.call (ι.f 111) [.t 11]),kF 10 12,kQ 13 10 0,kQ 14 10 1,kB 5 13,kB 6 14] (.seq (kY [kA 15 0,kA 16 6,kU 17 (.cm .eql .i64 (.t 16) (.c (.int .i64 0))),.e (.t 18) (.call (ι.f 110) [.t 15,.t 17,.c (.int .i64 6)]),kU 19 (.not (.t 18)),kF 20 19,kS 21 20 false 0,kS 22 20 false 5,kS 23 20 false 1,kT 24 20 false (.cm .gtr .u64 (.t 22) (.t 23)),.ge (.t 25) (.t 20) false (.call (ι.f 110) [.t 21,.t 24,.c (.int .i64 2)]),kT 26 20 false (.not (.t 25)),kV 27 (.pick (.t 20) (.c (.bool true)) (.t 26))] (.ite (.v 27) (kY [kC 4 (.int .u64 0)] .ret) .skip)) (kY [kA 28 0,kA 29 6,.e (.t 30) (.call (ι.f 112) [.t 28,.t 29])] (kY [kA 31 5,kB 4 31] .ret)))))
def BE:List RV:=[.t 4]
def HS (ι:aG):S:=
 kY [kC 4 (.int .i64 0)] (.seq (kY [kA 5 0,.e (.t 6) (.call (ι.f 109) [.t 5]),kU 7 (.not (.t 6)),kF 8 7,kS 9 8 false 0,kS 10 8 false 1,kT 11 8 false (.cm .lss .i64 (.t 10) (.c (.int .i64 0))),.ge (.t 12) (.t 8) false (.call (ι.f 110) [.t 9,.t 11,.c (.int .i64 1)]),kT 13 8 false (.not (.t 12)),kV 14 (.pick (.t 8) (.c (.bool true)) (.t 13))] (.ite (.v 14) (kY [kC 4 (.int .i64 0)] .ret) .skip)) (kY [kA 15 0,kA 16 1,kU 17 (.ii .u64 (.t 16)),.e (.t 18) (.call (ι.f 341) [.t 15,.t 17]),kU 19 (.ii .i64 (.t 18)),kB 4 19] .ret))
def HT:List RV:=[.t 4]
def HU (ι:aG):S:=
 kY [.e (.v 4) (.new (ι.t 128) #[kZ])] (.seq (kY [kA 10 0,.e (.t 11) (.call (ι.f 109) [.t 10]),kV 12 (.not (.t 11))] (.ite (.v 12) (kY [kU 13 (.m (.bld #[kZ] [])),.e .no (.stn 1 (.v 4) (.t 13))] .ret) .skip)) (kY [kA 14 0,kU 15 (.nil (.t 14)),kU 16 (.fa 0 (.t 15)),kD 17 16,kB 5 17] (kY [kA 19 0,.e (.t 20) (.call (ι.f 114) [.t 19,.c (.int .i64 512)]),.e (.t 21) (.call (ι.f 339) [.t 20]),kF 18 21,kQ 22 18 0,kQ 23 18 1,.e (.v 6) (.new (ι.t 128) #[kZ]),.e .no (.stn 1 (.v 6) (.t 22)),kB 7 23] (.seq (kY [kA 24 0,.e (.t 25) (.call (ι.f 109) [.t 24]),kV 26 (.not (.t 25))] (.ite (.v 26) (kY [kU 27 (.m (.bld #[kZ] [])),.e .no (.stn 1 (.v 4) (.t 27))] .ret) .skip)) (kY [kM 29 1 6,.e (.t 30) (.call (ι.f 134) [.t 29]),kF 28 30,kQ 31 28 0,kQ 32 28 1,kB 8 31,kB 9 32] (.seq (.blk 0 (kY [kA 35 7,kU 36 (.cm .neq .i64 (.t 35) (.c (.int .i64 0))),kB 34 36] (.ite (.v 34) (.reg [kA 37 0,kU 38 (.nil (.t 37)),kU 39 (.fa 1 (.t 38)),.e .no (.st (.t 39) (.c (.int .i64 6)))]) (kY [kA 41 9,kF 42 41,kS 43 42 true 8,kS 44 42 true 1,kT 45 42 true (.cm .gtr .i64 (.t 43) (.t 44)),kJ 46 42 45,kB 40 46] (.ite (.v 40) (.reg [kA 47 0,kU 48 (.nil (.t 47)),kU 49 (.fa 1 (.t 48)),.e .no (.st (.t 49) (.c (.int .i64 2)))]) (kY [kM 33 1 6,.e .no (.stn 1 (.v 4) (.t 33))] .ret)))))) (kY [kA 50 0,kA 51 5,kU 52 (.nil (.t 50)),kU 53 (.fa 0 (.t 52)),.e .no (.st (.t 53) (.t 51))] (kY [kU 54 (.m (.bld #[kZ] [])),.e .no (.stn 1 (.v 4) (.t 54))] .ret))))))))
def HV:List RV:=[.cn 4 1]
def Ra (ι:aG):S:=
 kY [kC 4 (.bool false)] (kY [kA 5 0,kU 6 (.m (.b2s (.t 5))),kA 7 1,kU 8 (.m (.b2s (.t 7))),kU 9 (.sc .eql (.t 6) (.t 8)),kB 4 9] .ret)
def Rb:List RV:=[.t 4]
def mb (P:Program) (k:FuncId):Prop:=∀(F:Nat->Prop) (w:Nat) (l m:List UInt8) (p:Nat->Bool) (x:Value) (H:Hp),wS F H w l->aQ H x p->eo m->(∀n,bH m n=p n)->l.length<=70000000→
 an P k #[.pointer (some ⟨w,0,none⟩),x] H fun r H'=>r=.tuple #[]/\wS (grow F H H') H' w (l++dw m)/\af F H H'
variable {P:Program} {ι:aG} {k:FuncId}
theorem VT (hk:al P k (HQ ι) HR 2) (hb:En P (ι.f 338)) (hw:fq P (ι.f 58)):mb P k:=by
 intro F w l m p x H hW hx hm hmp hl;obtain⟨v,W,rfl,hv⟩:=hx;have hx:aQ H (.agg #[v]) p:=⟨v,W,rfl,hv⟩
 refine ah hk (args:=[_,_]) (by simp) ?_;unfold HQ HR kA kM kR kY;simp only[go_sem,Za,Zb,zF];refine ay fun H1 b1 e1 z1 B1 K1=>?_;have bQ:Bl H1 b1 [v]:=B1;have s1:=K1.size;have hF:=hW.bound;simp only[go_sem,Za,Zb,zF,bQ.aM 1 rfl];refine(hb p _ H1 (hx.aj K1)).mono ?_;rintro r H2 ⟨⟨l2,O2,c2,b2,n2⟩,o2,K2⟩;have e2:l2=m:=Em c2 hm fun n=>(b2 n).trans (hmp n).symm;subst e2;have fk:=K1.trans K2;have s2:=fk.size;rw[ae];simp only[go_sem,Za,Zb,zF];refine(hw F w l l2 r H2 (hW.ai fk (by simp)) O2.sl (fun q hq hf=>by have:=o2 q (O2.aT hq);have:=hF q hf;omega) (by omega)).mono ?_;rintro r H3 ⟨rfl,W3,K3⟩;rw[ae];simp only[go_sem,Za,Zb,ae,zF];refine⟨W3.mono (fun q h=>?_) (fun q h=>?_),fk.any.trans K3⟩
 ·rcases h with h|h
  ·exact .inl h
  ·exact .inr ⟨by omega,h.2⟩
 ·have:=K3.size;rcases h with h|h
  ·have:=hF q h;omega
  ·exact h.2
def rdNum (most:Nat) (s:List UInt8×Int):Nat×(List UInt8×Int):=
 if s.2≠0 then(0,s)else match fR true 0 s.1 with|none=>(0,(s.1,6))|some (v,r)=>if v>most then(0,(s.1,2))else(v,(r,0))
def xX (P:Program) (k:FuncId):Prop:=∀(F:Nat->Prop) (r:Nat) (s:List UInt8×Int) (most:Nat) (H:Hp),iK F H r s.1 s.2->s.1.length<=100000000->most<=1000000000->an P k #[.pointer (some ⟨r,0,none⟩),.int .u64 most] H fun x H'=>
 x=.int .u64 (rdNum most s).1/\iK F H' r (rdNum most s).2.1 (rdNum most s).2.2/\af (fun k=>k=r) H H'
theorem Rc (hk:al P k (BD ι) BE 2) (ho:gC P (ι.f 109)) (hrf:ju P (ι.f 110)) (hn:jv P (ι.f 111)) (ht:jw P (ι.f 112)):xX P k:=by
 rintro F r ⟨l,e⟩ most H hr hl hm;refine ah hk (args:=[_,_]) (by simp) ?_;unfold BD BE kA kB kF kC kQ kS kT kU kV kY;simp only at hr hl;simp-implicitDefEqProofs only[go_sem,↓reduceIte,Za,Zb,Zc,reduceCtorEq,ae];refine(ho _ _ _ _ _ hr).mono ?_;rintro x H1 ⟨rfl,rfl⟩;rw[ae]
 by_cases c:e=0
 case neg=>
  have e1:(e==0)=false:=by simpa using c
  have:rdNum most (l,e)=(0,(l,e)):=by unfold rdNum;rw[if_pos (by simpa using c)]
  simp-implicitDefEqProofs only[go_sem,↓reduceIte,Za,Zb,Zc,reduceCtorEq,ae,e1,this,Bool.not_false];exact⟨hr,af.refl _ _⟩
 subst c;have Ai:((0:Int)==0)=true:=rfl;simp-implicitDefEqProofs only[go_sem,↓reduceIte,Za,Zb,Zc,reduceCtorEq,ae,Ai,Bool.not_true];refine(hn _ _ _ _ _ hr hl).mono ?_;rintro x H2' ⟨rfl,rfl⟩;rw[ae]
 cases hd:fR true 0 l with
 |none=>
  have:rdNum most (l,0)=(0,(l,6)):=by unfold rdNum;rw[if_neg (by simp),hd]
  rw[ry hd,this];simp-implicitDefEqProofs only[go_sem,↓reduceIte,Za,Zb,Zc,reduceCtorEq,ae,Ai];refine(hrf _ _ _ _ _ _ hr).mono ?_;rintro x H3 ⟨rfl,R3,K3⟩;rw[ae];simp-implicitDefEqProofs only[go_sem,↓reduceIte,Za,Zb,Zc,reduceCtorEq,ae]at R3;simp-implicitDefEqProofs only[go_sem,↓reduceIte,Za,Zb,Zc,reduceCtorEq,ae,Bool.not_true,Bool.not_false,false_imp_iff,forall_const];exact⟨R3,K3⟩
 |some p=>
  obtain⟨v,q⟩:=p;obtain⟨h1,h2,h3,h4⟩:=ru hd;rw[h1];have hq:(((l.length -q.length:Nat):Int)==0)=false:=by simp;omega
  simp-implicitDefEqProofs only[go_sem,↓reduceIte,Za,Zb,Zc,reduceCtorEq,ae,hq];refine(hrf _ _ _ _ _ _ hr).mono ?_;rintro x H3 ⟨rfl,R3,K3⟩;rw[ae];simp-implicitDefEqProofs only[go_sem,↓reduceIte,Za,Zb,Zc,reduceCtorEq,ae]at R3;have hr0:rdNum most (l,0)=if v>most then(0,(l,2))else(v,(q,0)):=by unfold rdNum;rw[if_neg (by simp),hd]
  by_cases cv:v>most
  ·have d1:decide ((v:Int)>(most:Int))=true:=decide_eq_true (by omega);rw[hr0,if_pos cv];simp-implicitDefEqProofs only[go_sem,↓reduceIte,Za,Zb,Zc,reduceCtorEq,ae,d1,Bool.not_true,Bool.not_false,false_imp_iff,forall_const];refine(hrf _ _ _ _ _ _ R3).mono ?_;rintro x H4 ⟨rfl,R4,K4⟩;rw[ae];simp-implicitDefEqProofs only[go_sem,↓reduceIte,Za,Zb,Zc,reduceCtorEq,ae]at R4;simp-implicitDefEqProofs only[go_sem,↓reduceIte,Za,Zb,Zc,reduceCtorEq,ae,Bool.not_true,Bool.not_false,false_imp_iff,forall_const];exact⟨R4,K3.trans K4⟩
  ·have d1:decide ((v:Int)>(most:Int))=false:=decide_eq_false (by omega);rw[hr0,if_neg cv];simp-implicitDefEqProofs only[go_sem,↓reduceIte,Za,Zb,Zc,reduceCtorEq,ae,d1,Bool.not_true,Bool.not_false,false_imp_iff,forall_const];refine(hrf _ _ _ _ _ _ R3).mono ?_;rintro x H4 ⟨rfl,R4,K4⟩;rw[ae];simp-implicitDefEqProofs only[go_sem,↓reduceIte,Za,Zb,Zc,reduceCtorEq,ae]at R4;simp-implicitDefEqProofs only[go_sem,↓reduceIte,Za,Zb,Zc,reduceCtorEq,ae,Bool.not_true,Bool.not_false,false_imp_iff,forall_const];refine(ht _ _ _ _ _ _ R4 (by omega) hl).mono ?_;rintro x H5 ⟨O5,o5,R5,K5⟩;rw[ae];rw[h3]at R5;simp-implicitDefEqProofs only[go_sem,↓reduceIte,Za,Zb,Zc,reduceCtorEq,ae];exact⟨R5,(K3.trans K4).trans K5⟩
def dN (P:Program) (k:FuncId):Prop:=∀(F:Nat->Prop) (r:Nat) (s:List UInt8×Int) (most:Nat) (H:Hp),iK F H r s.1 s.2->s.1.length<=100000000->most<=1000000000->an P k #[.pointer (some ⟨r,0,none⟩),.int .i64 most] H fun x H'=>
 x=.int .i64 (rdNum most s).1/\iK F H' r (rdNum most s).2.1 (rdNum most s).2.2/\af (fun k=>k=r) H H'
theorem Eo (most:Nat) (s:List UInt8×Int):(rdNum most s).1<=most:=by
 unfold rdNum
 split
 ·omega
 ·split
  ·simp only;omega
  ·split
   ·simp only;omega
   ·simp only;omega
theorem VU (hk:al P k (HS ι) HT 2) (ho:gC P (ι.f 109)) (hrf:ju P (ι.f 110)) (hu:xX P (ι.f 341)):dN P k:=by
 rintro F r ⟨l,e⟩ most H hr hl hm;refine ah hk (args:=[_,_]) (by simp) ?_;unfold HS HT kA kB kF kC kS kT kU kV kY;simp only at hr hl;simp-implicitDefEqProofs only[go_sem,↓reduceIte,Za,Zb,Zc,reduceCtorEq,ae];refine(ho _ _ _ _ _ hr).mono ?_;rintro x H1 ⟨rfl,rfl⟩;rw[ae]
 by_cases c:e=0
 case neg=>
  have e1:(e==0)=false:=by simpa using c
  have:rdNum most (l,e)=(0,(l,e)):=by unfold rdNum;rw[if_pos (by simpa using c)]
  simp-implicitDefEqProofs only[go_sem,↓reduceIte,Za,Zb,Zc,reduceCtorEq,ae,e1,this,Bool.not_false,Bool.not_true,false_imp_iff,forall_const];exact⟨hr,af.refl _ _⟩
 subst c;have Ai:((0:Int)==0)=true:=rfl;have d1:decide ((most:Int)<0)=false:=decide_eq_false (by omega);simp-implicitDefEqProofs only[go_sem,↓reduceIte,Za,Zb,Zc,reduceCtorEq,ae,Ai,d1,Bool.not_true,Bool.not_false,false_imp_iff,forall_const];refine(hrf _ _ _ _ _ _ hr).mono ?_;rintro x H2 ⟨rfl,R2,K2⟩;rw[ae];simp only[Bool.false_eq_true,if_false]at R2;have wm:IntKind.u64.wrap (most:Int)=(most:Int):=by rw[IntKind.wrap_u64];omega
 have hle:=Eo most (l,0);have wv:IntKind.i64.wrap ((rdNum most (l,0)).1:Int)=((rdNum most (l,0)).1:Int):=IntWalk.i64_in _ ⟨by omega,by omega⟩;simp-implicitDefEqProofs only[go_sem,↓reduceIte,Za,Zb,Zc,reduceCtorEq,ae,wm,Bool.not_true,Bool.not_false,false_imp_iff,forall_const];refine(hu F r (l,0) most H2 R2 hl hm).mono ?_;rintro x H3 ⟨rfl,R3,K3⟩;rw[ae];simp-implicitDefEqProofs only[go_sem,↓reduceIte,Za,Zb,Zc,reduceCtorEq,ae,wv];exact⟨R3,K2.trans K3⟩
def BG (P:Program) (k:FuncId):Prop:=∀(a b:List UInt8) (v w:Value) (H:Hp),aO H v (w8 a)->aO H w (w8 b)->an P k #[v,w] H fun r H'=>r=.bool (decide (a=b))/\H'=H
theorem Re (hk:al P k (Ra ι) Rb 2):BG P k:=by
 intro a b v w H hv hw;refine ah hk (args:=[_,_]) (by simp) ?_;unfold Ra Rb kA kB kC kU kY;simp only[go_sem,Za,Zb,ae,hv.bX,hw.bX,toBA_w8,Nx];exact⟨oz hv.bX,oz hw.bX⟩
open Classical in
noncomputable def cO (most:Nat) (s:List UInt8×Int):List UInt8×(List UInt8×Int):=
 if s.2≠0 then([],s)else if(bB 512 s).2.2≠0 then([],(bB 512 s).2)else if¬eo (bB 512 s).1 then([],(s.1,6))else if∃n,bH (bB 512 s).1 n=true/\most<n then([],(s.1,2))else(bB 512 s)
theorem xY (most:Nat) (s:List UInt8×Int):(bB most s).1.length<=most:=by
 unfold bB
 split
 ·simp
 ·split
  ·simp
  ·split
   ·simp
   ·split
    ·simp
    ·simp only[List.length_take];omega
theorem fT (n:Nat):bH [] n=false:=jZ (by simp)
def fU (P:Program) (k:FuncId):Prop:=∀(F:Nat->Prop) (r:Nat) (s:List UInt8×Int) (most:Nat) (H:Hp),iK F H r s.1 s.2->s.1.length<=100000000->most<=1000000000->an P k #[.pointer (some ⟨r,0,none⟩),.int .i64 most] H fun x H'=>
 aQ H' x (bH (cO most s).1)/\(∀q,jc x q->H.size<=q)/\iK F H' r (cO most s).2.1 (cO most s).2.2/\af (fun k=>k=r) H H'
theorem VV (hk:al P k (HU ι) HV 2) (ho:gC P (ι.f 109)) (hb:l8 P (ι.f 114)) (hr0:JS P (ι.f 339)) (hg:gX P (ι.f 134)):fU P k:=by
 rintro F r ⟨l,e⟩ most H hr hl hm;refine qI fun Q hQ=>?_;refine ah hk (args:=[_,_]) (by simp) ?_;unfold HU HV kA kB kF kD kJ kM kQ kS kT kU kV kY kZ;simp only at hr hl;simp only[go_sem,Za,Zb,zF];refine ay fun H1 b4 e1 z1 B4 K1=>?_;have rZ:Bl H1 b4 [.slice none 0 0]:=B4;have s1:=K1.size;have hr1:=hr.ai K1 (by simp);have hF:=hr.bound
 -- the empty set is given back
 have empty:∀(A:Hp) (u:Value),Bl A b4 [u]->af (fun q=>q=r) H1 A->(cO most (l,e)).1=[]->iK F A r (cO most (l,e)).2.1 (cO most (l,e)).2.2→
   (bM A ⟨b4,0,none⟩ 1/\bO #[Value.slice none 0 0])/\(aM (aB A ⟨b4,0,none⟩ [.slice none 0 0]) (.pointer (some ⟨b4,0,none⟩)) 1).isSome=true/\Q (.agg ((aM (aB A ⟨b4,0,none⟩ [.slice none 0 0]) (.pointer (some ⟨b4,0,none⟩)) 1).getD #[])) (aB A ⟨b4,0,none⟩ [.slice none 0 0]):=fun A u B K h1 hR=>
  sD B (bd rfl) fun H' z' K'=>by
   rw[hQ];refine⟨?_,fun q hq=>?_,hR.ai K' fun q hq e=>by have:=hF q hq;omega,(K1.any.trans K).trans' K' fun q hq e=>by omega⟩
   ·rw[h1];exact(aQ.empty _ none 0).congr fun n=>(fT n).symm
   ·simp[jc,aT]at hq
 simp only[go_sem,Za,Zb,zF];refine(ho _ _ _ _ _ hr1).mono ?_;rintro x A1 ⟨rfl,rfl⟩;rw[ae]
 by_cases c:e=0
 case neg=>
  have e1:(e==0)=false:=by simpa using c
  have:cO most (l,e)=([],(l,e)):=by unfold cO;rw[if_pos (by simpa using c)]
  simp only[go_sem,Za,Zb,ae,zF,e1,Bool.not_false,cD];exact empty A1 _ rZ (af.refl _ _) (by rw[this]) (by rw[this];exact hr1)
 subst c;have Ai:((0:Int)==0)=true:=rfl;have afh:=hr1;obtain⟨v,B,S,f1,f2,f3⟩:=afh;have c0:cell A1 ⟨r,0,none⟩=some v:=by rw[B.cell];rfl
 simp only[go_sem,Za,Zb,zF,Ai,Bool.not_true,c0];refine(hb F r (l,0) 512 A1 hr1 hl (by omega)).mono ?_;rintro lv A2 ⟨O2,o2,R2,K2⟩;have hlen:=xY 512 (l,0);rw[ae];simp only[go_sem,Za,Zb,zF];refine(hr0 (bB 512 (l,0)).1 lv A2 O2.sl (by omega)).mono ?_;rintro x A3 ⟨hx,K3⟩;have lF:=K2.trans K3.any;have R3:=R2.ai K3 (by simp);have s13:=lF.size;obtain⟨sv,e7,rfl,hsv,qm⟩:∃sv e7,x=.tuple #[.agg #[sv],.int .i64 e7]/\(∃p,aQ A3 (.agg #[sv]) p)/\((e7=0/\eo (bB 512 (l,0)).1/\aQ A3 (.agg #[sv]) (bH (bB 512 (l,0)).1)/\∀q,aT sv q->A2.size<=q)\/(e7=6/\¬eo (bB 512 (l,0)).1)):=by
  rcases hx with⟨_,h2,sv,rfl,h4,h5⟩|⟨h1,rfl⟩
  ·exact⟨sv,0,rfl,⟨_,h4⟩,.inl ⟨rfl,h2,h4,h5⟩⟩
  ·exact⟨_,6,rfl,⟨_,aQ.empty _ none 0⟩,.inr ⟨rfl,fun h=>h1 ⟨hlen,h⟩⟩⟩
 have one:sv.oneCell'=true:=by
  obtain⟨p,_,W,e,hV⟩:=hsv
  cases e
  exact aI hV.sl.aq
 rw[ae];simp only[go_sem,Za,Zb,zF];refine aN [sv] (by rfl) rfl rfl (by simp[one]) fun A4 b6 e6 z6 B6 K4=>?_;have EC:=lF.trans K4.any;have R4:=R3.ai K4 (by simp);have B44:=EC.bl rZ (by have:=hF r f1;omega);simp only[go_sem,Za,Zb,zF];refine(ho _ _ _ _ _ R4).mono ?_;rintro x A5 ⟨rfl,rfl⟩;rw[ae]
 by_cases c2:(bB 512 (l,0)).2.2=0
 case neg=>
  have e1:((bB 512 (l,0)).2.2==0)=false:=by simpa using c2
  have:cO most (l,0)=([],(bB 512 (l,0)).2):=by unfold cO;rw[if_neg (by simp),if_pos c2]
  simp only[go_sem,Za,Zb,ae,zF,e1,Bool.not_false,cD];exact empty A5 _ B44 EC (by rw[this]) (by rw[this];exact R4)
 have e1:((bB 512 (l,0)).2.2==0)=true:=by simpa using c2
 obtain⟨p,hp⟩:=hsv;simp only[go_sem,Za,Zb,zF,e1,Bool.not_true,B6.aM 1 rfl];refine(hg p _ A5 (hp.aj K4)).mono ?_;rintro x A6 ⟨hx6,K6⟩;have Jt:=EC.trans K6.any;have R6:=R4.ai K6 (by simp);have B46:=K6.bl B44 (by simp);have B66:=K6.bl B6 (by simp)
 -- the error e2 is set, and what was read is put back
 have back:∀(e2:Int) (g:Fr),g 0=.pointer (some ⟨r,0,none⟩)->∃u,Bl A6 r [u,.int .i64 0]/\(bu A6 (.pointer (some ⟨r,1,none⟩))/\bu (az A6 ⟨r,1,none⟩ (.int .i64 e2)) (.pointer (some ⟨r,0,none⟩)))/\iK F (az (az A6 ⟨r,1,none⟩ (.int .i64 e2)) ⟨r,0,none⟩ v) r l e2/\af (fun q=>q=r) A6 (az (az A6 ⟨r,1,none⟩ (.int .i64 e2)) ⟨r,0,none⟩ v):=fun e2 g g0=>by
  obtain⟨u,Bu,Su,_⟩:=R6;rw[c2]at Bu;have k1:af (fun q=>q=r) A6 (az A6 ⟨r,1,none⟩ (.int .i64 e2)):=(af.refl _ _).az _ (.inl rfl);have Bu2:=Bu.az 1 (.int .i64 e2);have k2:af (fun q=>q=r) (az A6 ⟨r,1,none⟩ (.int .i64 e2)) (az (az A6 ⟨r,1,none⟩ (.int .i64 e2)) ⟨r,0,none⟩ v):=(af.refl _ _).az _ (.inl rfl);have KK:=k1.trans k2;refine⟨u,Bu,⟨Bu.bu (o:=1) (by simp),Bu2.bu (o:=0) (by simp)⟩,⟨v,Bu2.az 0 v,(S.ai Jt fun q hq=>(f2 q hq).2).ai KK fun q hq=>(f2 q hq).2,f1,f2,fun q hq=>?_⟩,KK⟩;have:=f3 q hq;have:=Jt.size;have:=KK.size;omega
 have v1:v.oneCell'=true:=aI S.aq;have t4:=fun(A:Hp) (K:af (fun q=>q=r) A6 A)=>K.bl B46 (show¬b4=r by have:=hF r f1;omega);rw[ae]
 -- what was read is no set, or too great
 have fail:∀(e2:Int),cO most (l,0)=([],(l,e2))->∃u,Bl A6 r [u,.int .i64 0]/\(bu A6 (.pointer (some ⟨r,1,none⟩))/\bu (az A6 ⟨r,1,none⟩ (.int .i64 e2)) (.pointer (some ⟨r,0,none⟩)))∧
   ((bM (az (az A6 ⟨r,1,none⟩ (.int .i64 e2)) ⟨r,0,none⟩ v) ⟨b4,0,none⟩ 1/\bO #[Value.slice none 0 0])/\(aM (aB (az (az A6 ⟨r,1,none⟩ (.int .i64 e2)) ⟨r,0,none⟩ v) ⟨b4,0,none⟩ [.slice none 0 0]) (.pointer (some ⟨b4,0,none⟩)) 1).isSome=true/\Q (.agg ((aM (aB (az (az A6 ⟨r,1,none⟩ (.int .i64 e2)) ⟨r,0,none⟩ v) ⟨b4,0,none⟩ [.slice none 0 0]) (.pointer (some ⟨b4,0,none⟩)) 1).getD #[])) (aB (az (az A6 ⟨r,1,none⟩ (.int .i64 e2)) ⟨r,0,none⟩ v) ⟨b4,0,none⟩ [.slice none 0 0])):=fun e2 he=>by
  obtain⟨u,Bu,oks,RR,KK⟩:=back e2 (fun _=>.pointer (some ⟨r,0,none⟩)) rfl;exact⟨u,Bu,oks,empty _ _ (t4 _ KK) (Jt.trans KK) (by rw[he]) (by rw[he];exact RR)⟩
 rcases qm with⟨rfl,Dj,hS,hfr⟩|⟨rfl,Dj⟩
 ·have hS6:=hS.aj (K4.trans K6);have e70:((0:Int)!=0)=false:=rfl;have VH:∀n,p n=bH (bB 512 (l,0)).1 n:=fun n=>hp.VH hS n;have uP:(¬∃n,bH (bB 512 (l,0)).1 n=true/\most<n)->(bM A6 ⟨b4,0,none⟩ 1/\bO #[sv])/\(aM (aB A6 ⟨b4,0,none⟩ [sv]) (.pointer (some ⟨b4,0,none⟩)) 1).isSome=true/\Q (.agg ((aM (aB A6 ⟨b4,0,none⟩ [sv]) (.pointer (some ⟨b4,0,none⟩)) 1).getD #[])) (aB A6 ⟨b4,0,none⟩ [sv]):=fun hno=>
   sD B46 (bd (by simp[one])) fun H' z' K'=>by
    have he:cO most (l,0)=bB 512 (l,0):=by
     unfold cO;rw[if_neg (by simp),if_neg (by simpa using c2),if_neg (not_not_intro Dj),if_neg hno]
    have s2:=K2.size;rw[hQ,he];exact⟨hS6.ai K' fun q hq e=>by have:A2.size<=q:=hfr q hq;omega,fun q hq=>by have:A2.size<=q:=hfr q hq;omega,R6.ai K' fun q hq e=>by have:=hF q hq;omega,(K1.any.trans Jt).trans' K' fun q hq e=>by omega⟩
  rcases hx6 with⟨rfl,hno⟩|⟨t,rfl,ht⟩
  ·simp only[go_sem,Za,Zb,ae,zF,e70,B66.aM 1 rfl,false_imp_iff,forall_const];exact uP fun⟨n,h1,_⟩=>by rw[<-VH,hno]at h1;cases h1
  ·by_cases yB:(t:Int)>(most:Int)
   ·have d1:decide ((t:Int)>(most:Int))=true:=decide_eq_true yB;obtain⟨u,Bu,oks,aaz⟩:=fail 2 (by
     unfold cO;rw[if_neg (by simp),if_neg (by simpa using c2),if_neg (not_not_intro Dj),if_pos ⟨t,by rw[<-VH];exact ht.1,by omega⟩])
    simp only[go_sem,Za,Zb,ae]at oks;simp only[go_sem,Za,Zb,ae,zF,e70,d1,false_imp_iff,forall_const,oks,v1,cD];exact⟨v1,aaz⟩
   ·have d1:decide ((t:Int)>(most:Int))=false:=decide_eq_false yB;simp only[go_sem,Za,Zb,ae,zF,e70,d1,B66.aM 1 rfl,false_imp_iff,forall_const];exact uP fun⟨n,h1,h2⟩=>by
     rw[<-VH]at h1;have:=ht.2 n h1;omega
 ·have e70:((6:Int)!=0)=true:=rfl;obtain⟨u,Bu,oks,aaz⟩:=fail 6 (by
   unfold cO;rw[if_neg (by simp),if_neg (by simpa using c2),if_pos Dj])
  simp only[go_sem,Za,Zb,ae]at oks;rcases hx6 with⟨rfl,hno⟩|⟨t,rfl,ht⟩
  all_goals
   simp only[go_sem,Za,Zb,ae,zF,e70,false_imp_iff,forall_const,oks,v1,cD];exact⟨v1,aaz⟩
end Go.Mg
namespace Go.Mg
open Go Go.RowKit
def BH (ι:aG):S:=
 kY [kC 2 (kZ)] (kY [kC 3 (.int .i64 (-1))] (.seq (kY [kV 9 (.mv (.v 0)),kO 10 9,kC 11 (.int .i64 0)] (.blk 0 (.loop (kY [kH 12 11 10] (.seq (.ite (.v 12) .skip (.exit 0)) (.seq (.blk 1 (kY [kK 13 1 9 11,kD 14 13,kB 5 14] (kY [kA 15 5,kA 16 3,kV 17 (.cm .gtr .i64 (.t 15) (.t 16))] (.ite (.v 17) (.reg [kA 18 5,kB 3 18]) .skip)))) (.reg [ke 19 11,kB 11 19]))))))) (.seq (kY [kA 20 3,kV 21 (.cm .lss .i64 (.t 20) (.c (.int .i64 0)))] (.ite (.v 21) (kY [kC 2 (kZ)] .ret) .skip)) (kY [kA 22 3,kU 23 (.dv .quo .i64 (.t 22) (.c (.int .i64 8))),kU 24 (.ar .add .i64 (.t 23) (.c (.int .i64 1))),.e (.t 25) (.qf (ι.t 19) 1 1 #[.int .u8 0] (.t 24) (.t 24)),kB 6 25] (.seq (kY [kV 26 (.mv (.v 0)),kO 27 26,kC 28 (.int .i64 0)] (.blk 2 (.loop (kY [kH 29 28 27] (.seq (.ite (.v 29) .skip (.exit 2)) (.seq (.blk 3 (kY [kK 30 1 26 28,kD 31 30,kB 8 31] (.reg [kA 32 6,kA 33 8,kU 34 (.dv .quo .i64 (.t 33) (.c (.int .i64 8))),kA 35 6,kA 36 8,kU 37 (.dv .quo .i64 (.t 36) (.c (.int .i64 8))),kI 38 1 35 37,kD 39 38,kA 40 8,kU 41 (.dv .rem .i64 (.t 40) (.c (.int .i64 8))),kU 42 (.ii .u64 (.t 41)),kU 43 (.sh .shl .u8 (.c (.int .u8 1)) (.t 42)),kU 44 (.bt .or .u8 (.t 39) (.t 43)),kI 45 1 32 34,.e .no (.st (.t 45) (.t 44))]))) (.reg [ke 46 28,kB 28 46]))))))) (kY [kA 47 6,kB 2 47] .ret))))))
def BI:List RV:=[.t 2]
def rz (ι:aG):S:=
 kY [kC 2 (kZ)] (kY [kA 3 0,.e (.t 4) (.call (ι.f 346) [.t 3]),.e (.t 5) (.call (ι.f 62) [.t 4]),kB 2 5] .ret)
def rB:List RV:=[.t 2]
theorem Rf (x y:UInt8):bits .or .u8 (x.toNat:Int) (y.toNat:Int)=((x|||y).toNat:Int):=by
 have hb:∀z:UInt8,BitVec.ofInt 8 (z.toNat:Int)=z.toBitVec:=fun z=>by
  apply BitVec.eq_of_toNat_eq;simp
 show IntKind.u8.wrap ((BitVec.ofInt 8 (x.toNat:Int)|||BitVec.ofInt 8 (y.toNat:Int)).toNat:Int)=_
 rw[hb,hb];have:=(x|||y).toNat_lt
 show(((x|||y).toNat:Nat):Int) % 256=_
 omega
theorem aaA:∀k:Fin 8,IntKind.u8.wrap (1*2^k.val)=((UInt8.ofNat (2^k.val)).toNat:Int):=by decide+kernel
theorem VW (x:UInt8) {k:Nat} (hk:k<8) (b:Nat):(x|||UInt8.ofNat (2^k)).toNat.testBit b=(x.toNat.testBit b||decide (b=k)):=by
 rw[UInt8.toNat_or,Nat.testBit_or,UInt8.toNat_ofNat',Nat.mod_eq_of_lt (Nat.pow_lt_pow_right (by omega) hk),Nat.testBit_two_pow]
 congr 1
 by_cases e:k=b
 ·subst e;simp
 ·have:b≠k:=fun h=>e h.symm;simp[e,this]
theorem Rg {l:List UInt8} {m:Nat} (h:m/8<l.length) (n:Nat):bH (l.set (m/8) (l.getD (m/8) 0|||UInt8.ofNat (2^(m % 8)))) n=(bH l n||decide (n=m)):=by
 unfold bH
 by_cases e:n/8=m/8
 ·rw[e,List.getD_eq_getElem?_getD,List.getElem?_set_self h,Option.getD_some,VW _ (by omega)]
  congr 1
  rw[decide_eq_decide];omega
 ·rw[List.getD_eq_getElem?_getD,List.getElem?_set_ne (fun h=>e h.symm),<-List.getD_eq_getElem?_getD,decide_eq_false (show¬n=m by intro h;exact e (by rw[h])),Bool.or_false]
def xZ (P:Program) (k:FuncId):Prop:=∀(ns:List Nat) (v:Value) (H:Hp),aO H v (iN ns)->ns.length<=1000000->(∀n∈ns,n<4096)->an P k #[v] H fun r H'=>(∃l,bq H' r (w8 l)/\eo l/\(∀n,bH l n=decide (n∈ns))/\l.length<=512)/\(∀q,ax r q->H.size<=q)/\af (fun _=>False) H H'
theorem mc {ns:List Nat} {i:Nat} (hi:i<ns.length) (n:Nat):n∈ns.take (i+1)↔n∈ns.take i\/n=ns[i]:=by
 rw[List.take_succ_eq_append_getElem hi,List.mem_append,List.mem_singleton]
variable {k:FuncId} {P:Program} {ι:aG}
theorem Ep (hk:al P k (BH ι) BI 1):xZ P k:=by
 intro ns v H hv hl hn;refine qI fun Q hQ=>?_;refine ah hk (args:=[_]) (by simp) ?_;unfold BH BI kA kB kC kD ke kH kI kK kO kU kV kY kZ;have hlen:aU v=ns.length:=by rw[hv.len,bE]
 have cell:∀i,(hi:i<ns.length)->∃b o c,v=.slice (some ⟨b,o,none⟩) ns.length c/\∀A,af (fun _=>False) H A->cell A ⟨b,o+i,none⟩=some (.int .i64 (ns[i]:Nat)):=fun i hi=>by
  obtain⟨b,o,c,rfl,_,hc⟩:=hv.cells (by intro e;have h:=congrArg List.length e;rw[bE,List.length_nil]at h;omega);rw[bE]at hc⊢;refine⟨b,o,c,rfl,fun A hA=>?_⟩;have:=(hv.ai hA (by simp)).oC (i:=i) (by rw[bE];exact hi);rw[this];simp[iN,iL,hi]
 simp only[go_sem,Za,Zb,zF,hv.aq,hlen];refine aD ns.length [12,5,17,3,11] rfl rfl (by omega) (by rfl) (by rfl) (fun i g A=>∃t:Int,g 3=.int .i64 t/\-1<=t/\t<4096/\(∀n∈ns.take i,(n:Int)<=t)/\(t=-1\/∃n∈ns.take i,(n:Int)=t)/\A=H) ⟨-1,by simp only[go_sem,Za,Zb,ae],by omega,by omega,by simp,.inl rfl,rfl⟩ ?_ ?_
 ·rintro i g A hi gi gn ⟨t,g3,h1,h2,h3,h4,rfl⟩;simp only[go_sem,Za,Zb,ae]at gi gn g3;obtain⟨b,o,c,rfl,hc⟩:=cell i hi;have hci:=hc _ (af.refl _ _);have hni:=hn _ (List.getElem_mem hi)
  by_cases yB:((ns[i]:Nat):Int)>t
  ·have d1:decide (((ns[i]:Nat):Int)>t)=true:=decide_eq_true yB;simp only[go_sem,Za,Zb,ae,zF,gi,g3,ak,hci,d1];refine⟨by omega,_,rfl,by omega,by omega,fun n Yi=>?_,.inr ⟨ns[i],(mc hi _).2 (.inr rfl),rfl⟩⟩;rcases(mc hi _).1 Yi with h|h
   ·have:=h3 n h;omega
   ·rw[h];omega
  ·have d1:decide (((ns[i]:Nat):Int)>t)=false:=decide_eq_false yB;simp only[go_sem,Za,Zb,ae,zF,gi,g3,ak,hci,d1];refine⟨by omega,t,rfl,h1,h2,fun n Yi=>?_,?_⟩
   ·rcases(mc hi _).1 Yi with h|h
    ·exact h3 n h
    ·rw[h];omega
   ·rcases h4 with h|⟨n,h,e⟩
    ·exact .inl h
    ·exact .inr ⟨n,(mc hi _).2 (.inl h),e⟩
 ·rintro g A -⟨t,g3,h1,h2,h3,h4,rfl⟩;simp only[go_sem,Za,Zb,ae]at g3;rw[List.take_length]at h3 h4
  by_cases ht:t<0
  ·have d1:decide (t<0)=true:=decide_eq_true ht;have hne:ns=[]:=by
    cases ns with
    |nil=>rfl
    |cons a l=>have:=h3 a (by simp);omega
   subst hne;simp only[go_sem,Za,Zb,ae,zF,g3,d1];rw[hQ];exact⟨⟨[],bq.nil _,fun h=>absurd rfl h,fun n=>by rw[fT];simp,by simp⟩,fun q h=>h.elim,af.refl _ _⟩
  ·have d1:decide (t<0)=false:=decide_eq_false ht;obtain⟨m,rfl⟩:=Int.eq_ofNat_of_zero_le (Int.not_lt.1 ht);have hm:m∈ns:=by
    rcases h4 with h|⟨n,h,e⟩
    ·omega
    ·have:n=m:=by omega
     rw[<-this];exact h
   have w0:∀m:Nat,m<=1000000->IntKind.i64.wrap (m:Int)=(m:Int):=fun m hm=>IntWalk.i64_in _ (by omega);have q1:(m:Int).tdiv 8=((m/8:Nat):Int):=(Int.ofNat_tdiv m 8).symm;have w1:IntKind.i64.wrap (((m/8:Nat):Int)+1)=((m/8+1:Nat):Int):=by rw[IntWalk.i64_in _ (by omega)];omega
   simp only[go_sem,Za,Zb,zF,g3,d1,q1,w0 (m/8) (by omega),w1];refine⟨by decide,⟨by omega,by omega,by unfold maxLen;omega⟩,?_⟩;refine aF fun H3 b3 e3 z3 B3 K3=>?_;rw[cT,Nf]at B3;simp only[go_sem,Za,Zb,zF,ak,hv.aq,hlen];refine aD ns.length [29,8,28] rfl rfl (by omega) (by rfl) (by rfl) (fun i g B=>∃l,Bl B b3 (w8 l)/\l.length=m/8+1/\(∀n,bH l n=decide (n∈ns.take i))/\af (fun q=>q=b3) H3 B) ⟨_,B3,by simp,fun n=>?_,af.refl _ _⟩ ?_ ?_
   ·unfold bH;have:(List.replicate (m/8+1) (0:UInt8)).getD (n/8) 0=0:=by
     rw[List.getD_eq_getElem?_getD,List.getElem?_replicate]
     split<;>rfl
    rw[this];simp
   ·rintro i g B hi gi gn ⟨l,Bl_,Cr,hlb,KB⟩;simp only[go_sem,Za,Zb,ae]at gi gn;have KHB:af (fun _=>False) A B:=K3.trans' KB fun q hq e=>by omega
    obtain⟨b,o,c,rfl,hc⟩:=cell i hi;have hci:=hc _ KHB;have hni:=hn _ (List.getElem_mem hi);have hle:=h3 _ (List.getElem_mem hi);have q2:((ns[i]:Nat):Int).tdiv 8=((ns[i]/8:Nat):Int):=(Int.ofNat_tdiv _ 8).symm;have q3:((ns[i]:Nat):Int).tmod 8=((ns[i] % 8:Nat):Int):=cg _ 8;have w3:IntKind.u64.wrap ((ns[i] % 8:Nat):Int)=((ns[i] % 8:Nat):Int):=by rw[IntKind.wrap_u64];omega
    have lt:=Bl_.bu (o:=ns[i]/8) (by rw[aK];omega);have cw:Mg.cell B ⟨b3,ns[i]/8,none⟩=some (.int .u8 (l.getD (ns[i]/8) 0).toNat):=by rw[Bl_.cell,jH _ _ (by omega)]
    have sh:=aaA ⟨ns[i] % 8,by omega⟩;simp only at sh;have hs:=Bl_.az (ns[i]/8) (.int .u8 (l.getD (ns[i]/8) 0|||UInt8.ofNat (2^(ns[i] % 8))).toNat);rw[yt]at hs;simp only[go_sem,Za,Zb,ae,zF,gi,ak,hci,q2,q3,w0 (ns[i]/8) (by omega),w3,lt,cw,sh,Rf];refine⟨by omega,by decide,by decide,by omega,by decide,by omega,by omega,_,hs,by simpa using Cr,fun n=>?_,KB.az (p:=⟨b3,ns[i]/8,none⟩) _ (.inl rfl)⟩;rw[Rg (by omega),hlb,Bool.eq_iff_iff];simp only[Bool.or_eq_true,decide_eq_true_eq,mc hi]
   ·rintro g B gi ⟨l,Bl_,Cr,hlb,KB⟩;rw[List.take_length]at hlb;simp only[go_sem,Za,Zb,ae,zF];rw[hQ];refine⟨⟨l,bq.new Bl_ (by rw[aK,Cr]) rfl,eo.lE fun _=>⟨m,by rw[hlb];exact decide_eq_true hm,by omega⟩,hlb,by omega⟩,fun q (hq:q=b3)=>by omega,K3.trans' KB fun q hq e=>by omega⟩
def me (P:Program) (k:FuncId):Prop:=∀(ns:List Nat) (m:List UInt8) (v:Value) (H:Hp),aO H v (iN ns)->ns.length<=1000000->(∀n∈ns,n<4096)->eo m->(∀n,bH m n=decide (n∈ns))->an P k #[v] H fun r H'=>bq H' r (w8 (dw m))/\(∀q,ax r q->H.size<=q)/\af (fun _=>False) H H'
theorem wB (hk:al P k (rz ι) rB 1) (hs:xZ P (ι.f 346)) (hp:js P (ι.f 62)):me P k:=by
 intro ns m v H hv hl hn hm hb;refine ah hk (args:=[_]) (by simp) ?_;unfold rz rB kA kB kC kY kZ;simp only[go_sem,Za,Zb,zF];refine(hs ns v H hv hl hn).mono ?_;rintro r H1 ⟨⟨l,O1,c1,b1,n1⟩,o1,K1⟩;have e2:l=m:=Em c1 hm fun n=>(b1 n).trans (hb n).symm;subst e2;have s1:=K1.size;rw[ae];simp only[go_sem,Za,Zb,zF];refine(hp l r H1 O1.sl (by omega)).mono ?_;rintro r2 H2 ⟨O2,o2,K2⟩;rw[ae];simp only[go_sem,Za,Zb,ae,zF];exact⟨O2,fun q hq=>by have:=o2 q hq;omega,K1.trans K2⟩
end Go.Mg
