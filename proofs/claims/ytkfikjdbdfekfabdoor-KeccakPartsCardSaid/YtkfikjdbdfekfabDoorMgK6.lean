/- Lemmas of ours. No conditions. -/
import Derived.Test.YtkfikjdbdfekfabDoorMgK5
open Nat renaming reduceEqDiff→Za,reduceAdd→Zb,reduceMul→Zc
set_option linter.all false
namespace Go.Mg
open Go Go.RowKit
set_option maxRecDepth 10000
def jo (ι:bh):S:=
 kY [kR 1 (ι.t 9) 0,kC 2 (.string ⟨#[]⟩)] (kY [kc 6 (.rV (ι.t 19) 1 1 #[.int .u8 0] (.c (.int .i64 0)) (.c (.int .i64 64))),kB 3 6] (.seq (kY [kV 7 (.m (.ldn 32 (.v 1))),kC 8 (.int .i64 0)] (.blk 0 (.loop (kY [kV 9 (.cm .lss .i64 (.v 8) (.c (.int .i64 32)))] (.seq (.ite (.v 9) .skip (.exit 0)) (.seq (.blk 1 (kY [kU 10 (.m (.ix 32 (.v 7) (.v 8))),kB 5 10] (.dr (kW 11 (.mv (.v 3)) (kW 12 (.mv (.v 5)) (kW 13 (.sh .shr .u8 (.t 12) (.c (.int .u64 4))) (kW 14 (.m (.ixs (.c (.string ⟨#[48,49,50,51,52,53,54,55,56,57,97,98,99,100,101,102]⟩)) (.t 13))) (kW 15 (.mv (.v 5)) (kW 16 (.bt .and .u8 (.t 15) (.c (.int .u8 15))) (kW 17 (.m (.ixs (.c (.string ⟨#[48,49,50,51,52,53,54,55,56,57,97,98,99,100,101,102]⟩)) (.t 16))) (ka 18 (.dS (ι.t 19) 1 2 [.t 14,.t 17]) (ka 19 (.app false (ι.t 19) 1 1 #[.int .u8 0] (.t 11) (.t 18)) (kX 3 (.mv (.t 19)) .done) .wnil) .wnil))))))))))) (.reg [ke 20 8,kB 8 20]))))))) (kY [kA 21 3,kU 22 (.m (.b2s (.t 21))),kB 2 22] .ret)))
def jq:List RV:=[.t 2]
def og:List UInt8:=[48,49,50,51,52,53,54,55,56,57,97,98,99,100,101,102]
def fE (x:UInt8):List UInt8:=[og.getD (x.toNat/16) 0,og.getD (x.toNat % 16) 0]
def b8 (l:List UInt8):List UInt8:=l.flatMap fE
theorem iK:∀(l:List UInt8),(b8 l).length=2*l.length
 |[]=>rfl
 |x::l=>by
  have:=iK l;simp only[b8,List.flatMap_cons,List.length_append,List.length_cons,fE]at this⊢;simp only[List.length_nil];omega
def iL (P:Program) (k:FuncId):Prop:=∀(d:List UInt8) (H:Hp),d.length=32->ai P k #[.agg (w8 d).toArray] H fun r H'=>r=.string ⟨(b8 d).toArray⟩/\ae (fun _=>False) H H'
theorem j6 (n:Nat) (h:n<16):((⟨#[48,49,50,51,52,53,54,55,56,57,97,98,99,100,101,102]⟩:ByteArray)[n]?.getD 0)=og.getD n 0:=by
 have:∀m:Fin 16,((⟨#[48,49,50,51,52,53,54,55,56,57,97,98,99,100,101,102]⟩:ByteArray)[m.val]?.getD 0)=og.getD m.val 0:=by decide
 exact this ⟨n,h⟩
theorem rJ (x:UInt8):bits .and .u8 (x.toNat:Int) 15=((x.toNat % 16:Nat):Int):=by
 have:∀m:Fin 256,bits .and .u8 ((m.val:Nat):Int) 15=((m.val % 16:Nat):Int):=by decide+kernel
 exact this ⟨x.toNat,x.toNat_lt⟩
theorem mD (a b:List UInt8):b8 (a++b)=b8 a++b8 b:=by simp[b8]
theorem oh {P:Program} {ι:bh} {k:FuncId} (hk:ah P k (jo ι) jq 1):iL P k:=by
 intro d H hd;refine ag hk (args:=[_]) (by simp) ?_;unfold jo jq kA kB kC ke kR kU kV kW kX ka kc kY;have hw:(w8 d).length=32:=by rw[af,hd]
 simp only[go_sem,zS,↓reduceIte,Za,Zb,Zc,reduceCtorEq,bo];refine aR fun H1 b1 e1 z1 B1 K1=>?_;simp only[go_sem,zS,↓reduceIte,Za,Zb,Zc,reduceCtorEq];refine⟨by decide,?_⟩;refine dw fun H2 b2 e2 z2 B2 K2=>?_;have rG:List.take 32 (w8 d)=w8 d:=List.take_of_length_le (by omega);simp only[go_sem,zS,↓reduceIte,Za,Zb,Zc,reduceCtorEq,aa,cr,(K2.bl B1 (by simp)).aJ (o:=0) (n:=32) (by simp[hw]),List.drop_zero,rG];have hz:(rep #[Value.int IntKind.u8 0] 64).toList=w8 (b8 (d.take 0))++List.replicate (64 -2*0) (.int .u8 0):=by rw[nT];rfl
 rw[hz]at B2;refine aD [9,5,3,8] rfl (fun n f H'=>∃i,i<=32/\n=32 -i/\f 8=.int .i64 i/\f 3=.slice (some ⟨b2,0,none⟩) (2*i) 64/\Bl H' b2 (w8 (b8 (d.take i))++List.replicate (64 -2*i) (.int .u8 0))/\ae (fun _=>False) H H') 32
  ⟨0,by omega,by omega,rfl,rfl,B2,K1.trans K2⟩ ?_
 rintro n g H3 ⟨i,uK,rfl,sG,pc,B3,K3⟩;simp only[go_sem,zS,↓reduceIte,Za,Zb,Zc,reduceCtorEq,aa]at sG pc;simp only[go_sem,zS,↓reduceIte,Za,Zb,Zc,reduceCtorEq,aa,sG,pc];have j2:(w8 (b8 (d.take i))).length=2*i:=by rw[af,iK,List.length_take];omega
 refine au (fun hlt=>?_) (fun o8=>?_)
 ·have hi:i<32:=by omega
  have hg:=bR d i (by omega);have hx:=(d.getD i 0).toNat_lt;have e4:((d.getD i 0).toNat:Int)/2^4=(((d.getD i 0).toNat/16:Nat):Int):=by
   have:(2^4:Int)=16:=by decide
   rw[this];omega
  have d1:=j6 ((d.getD i 0).toNat/16) (by omega);have d2:=j6 ((d.getD i 0).toNat % 16) (by omega);simp(disch:=omega)only[go_sem,zS,↓reduceIte,Za,Zb,Zc,reduceCtorEq,aa,sG,pc,hg,List.getElem?_toArray];refine⟨⟨by omega,by omega,by simp[hw];omega⟩,?_⟩;refine eM (fun b=>b=b2) ?_;simp(disch:=omega)only[go_sem,zS,↓reduceIte,Za,Zb,Zc,reduceCtorEq,aa,kq,sG,pc,hg,e4,rJ,d1,d2,aq];generalize hA:Array.push H3 _=HA;have BA:Bl HA H3.size (w8 (fE (d.getD i 0))):=by rw[<-hA];exact Bl.eL _ _ _
  have KA:ae (fun _=>False) H3 HA:=by rw[<-hA];exact(ae.refl _ _).push _
  have hb2:=B3.lt;have BB:=KA.bl B3 (by simp);have hp:=BB.put 0 (2*i) (w8 (fE (d.getD i 0))).toArray;have eW:fD (w8 (b8 (d.take i))++List.replicate (64 -2*i) (.int .u8 0)) (0+2*i) (w8 (fE (d.getD i 0)))=w8 (b8 (d.take (i+1)))++List.replicate (64 -2*(i+1)) (.int .u8 0):=by
   have ht:d.take (i+1)=d.take i++[d.getD i 0]:=by
    rw[List.take_add_one];simp[show i<d.length by omega]
   have e0:(0+2*i)=2*i+0:=by omega
   rw[e0,fT _ _ _ _ _ j2.symm,ht,mD,mo,List.append_assoc]
   congr 1
   have:b8 [d.getD i 0]=fE (d.getD i 0):=by simp[b8]
   rw[this];simp only[fD,List.take_zero,List.nil_append,Nat.zero_add,List.drop_replicate]
   congr 2
  have KP:ae (fun _=>False) H (bE HA (some ⟨b2,0,none⟩) (2*i) (w8 (fE (d.getD i 0))).toArray):=(K3.trans KA).put rfl _ _ (.inr (by simp only[];have:=K1.size;omega));refine⟨by omega,by omega,by omega,KA.any,by unfold maxLen;omega,(w8 (fE (d.getD i 0))).toArray,BA.bD 0 2 2 2 (by simp[w8,fE]),fun _=>⟨BB.b6 _ _ _ (bS _) (by simp only[List.length_append,j2,List.length_replicate,List.size_toArray,af,fE,List.length_cons,List.length_nil];omega),(ae.refl _ _).put rfl _ _ (.inl rfl),32 -(i+1),by omega,i+1,by omega,rfl,?_,?_,?_,KP⟩,fun h=>by omega⟩
  ·rw[IntWalk.i64_in _ ⟨by omega,by omega⟩];simp
  ·have:2*i+2=2*(i+1):=by omega
   rw[this]
  ·rw[eW]at hp;exact hp
 ·have hi:i=32:=by omega
  subst hi;have ed:d.take 32=d:=List.take_of_length_le (by omega);rw[ed]at B3 j2;have hb:=B3.aB 0 (2*32) 64 (by simp[j2]);have xa:List.take (2*32) (List.drop 0 (w8 (b8 d)++List.replicate (64 -2*32) (.int .u8 0)))=w8 (b8 d):=by
   simp;exact List.take_of_length_le (by omega)
  rw[xa]at hb;exact⟨iH hb,by rw[hb,Option.getD_some,toBA_w8],K3⟩
end Go.Mg
