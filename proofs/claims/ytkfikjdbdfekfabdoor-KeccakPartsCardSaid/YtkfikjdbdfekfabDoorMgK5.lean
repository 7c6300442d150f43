/- Lemmas of ours. No conditions. -/
import Derived.Test.YtkfikjdbdfekfabDoorMgK4
open Nat renaming reduceEqDiff→Za,reduceAdd→Zb,reduceMul→Zc
set_option linter.all false
namespace Go.Mg
open Go Go.RowKit
set_option maxRecDepth 10000
def jh (ι:bh):S:=
 kY [kd 2 (.new (ι.t 9) (Array.replicate 32 (.int .u8 0)))] (.seq (kY [kA 7 0,kV 8 (.m (.eqn .ptr false (.t 7)))] (.ite (.v 8) (kY [kU 9 (.m (.bld (Array.replicate 32 (.int .u8 0)) [])),kf (.stn 32 (.v 2) (.t 9))] .ret) .skip)) (kY [kA 10 0,kU 11 (.nil (.t 10)),kU 12 (.fa 0 (.t 11)),kN 13 25 12,kd 3 (.new (ι.t 3) (Array.replicate 25 (.int .u64 0))),kf (.stn 25 (.v 3) (.t 13))] (kY [kd 4 (.new (ι.t 10) (Array.replicate 136 (.int .u8 0)))] (kY [kU 14 (.m (.sla 136 1 (.v 4) .none .none)),kA 15 0,kU 16 (.nil (.t 15)),kU 17 (.fa 25 (.t 16)),kA 18 0,kU 19 (.nil (.t 18)),kU 20 (.fa 161 (.t 19)),kD 21 20,kU 22 (.m (.sla 136 1 (.t 17) .none (.some (.t 21)))),kc 23 (.cpy false 1 (.t 14) (.t 22))] (kY [kA 24 0,kU 25 (.nil (.t 24)),kU 26 (.fa 161 (.t 25)),kD 27 26,kU 28 (.ia 136 1 (.v 4) (.t 27)),kf (.st (.t 28) (.c (.int .u8 6)))] (kY [kP 29 136 1 4 135,kD 30 29,kU 31 (.bt .xor .u8 (.t 30) (.c (.int .u8 128))),kP 32 136 1 4 135,kf (.st (.t 32) (.t 31))] (kY [kU 33 (.m (.sla 136 1 (.v 4) .none .none)),kc 34 (kg (ι.f 7) [.v 3,.t 33])] (kY [kd 5 (.new (ι.t 9) (Array.replicate 32 (.int .u8 0)))] (.seq (kY [kC 35 (.int .i64 0)] (.blk 0 (.loop (kY [kV 36 (.cm .lss .i64 (.v 35) (.c (.int .i64 32)))] (.seq (.ite (.v 36) .skip (.exit 0)) (.seq (.blk 1 (kY [kA 37 35,kB 6 37] (.reg [kA 38 6,kA 39 6,kU 40 (.dv .quo .i64 (.t 39) (.c (.int .i64 8))),kU 41 (.ia 25 1 (.v 3) (.t 40)),kD 42 41,kA 43 6,kU 44 (.dv .rem .i64 (.t 43) (.c (.int .i64 8))),kU 45 (.ar .mul .i64 (.c (.int .i64 8)) (.t 44)),kU 46 (.sh .shr .u64 (.t 42) (.t 45)),kU 47 (.ii .u8 (.t 46)),kU 48 (.ia 32 1 (.v 5) (.t 38)),kf (.st (.t 48) (.t 47))]))) (.reg [ke 49 35,kB 35 49]))))))) (kY [kM 50 32 5,kf (.stn 32 (.v 2) (.t 50))] .ret))))))))))
def ji:List RV:=[.cn 2 32]
def jj (ι:bh):S:=
 kY [kC 0 (.pointer .none)] (kY [kU 1 (.m (.bld #[.int .u64 0,.int .u64 0,.int .u64 0,.int .u64 0,.int .u64 0,.int .u64 0,.int .u64 0,.int .u64 0,.int .u64 0,.int .u64 0,.int .u64 0,.int .u64 0,.int .u64 0,.int .u64 0,.int .u64 0,.int .u64 0,.int .u64 0,.int .u64 0,.int .u64 0,.int .u64 0,.int .u64 0,.int .u64 0,.int .u64 0,.int .u64 0,.int .u64 0,.int .u8 0,.int .u8 0,.int .u8 0,.int .u8 0,.int .u8 0,.int .u8 0,.int .u8 0,.int .u8 0,.int .u8 0,.int .u8 0,.int .u8 0,.int .u8 0,.int .u8 0,.int .u8 0,.int .u8 0,.int .u8 0,.int .u8 0,.int .u8 0,.int .u8 0,.int .u8 0,.int .u8 0,.int .u8 0,.int .u8 0,.int .u8 0,.int .u8 0,.int .u8 0,.int .u8 0,.int .u8 0,.int .u8 0,.int .u8 0,.int .u8 0,.int .u8 0,.int .u8 0,.int .u8 0,.int .u8 0,.int .u8 0,.int .u8 0,.int .u8 0,.int .u8 0,.int .u8 0,.int .u8 0,.int .u8 0,.int .u8 0,.int .u8 0,.int .u8 0,.int .u8 0,.int .u8 0,.int .u8 0,.int .u8 0,.int .u8 0,.int .u8 0,.int .u8 0,.int .u8 0,.int .u8 0,.int .u8 0,.int .u8 0,.int .u8 0,.int .u8 0,.int .u8 0,.int .u8 0,.int .u8 0,.int .u8 0,.int .u8 0,.int .u8 0,.int .u8 0,.int .u8 0,.int .u8 0,.int .u8 0,.int .u8 0,.int .u8 0,.int .u8 0,.int .u8 0,.int .u8 0,.int .u8 0,.int .u8 0,.int .u8 0,.int .u8 0,.int .u8 0,.int .u8 0,.int .u8 0,.int .u8 0,.int .u8 0,.int .u8 0,.int .u8 0,.int .u8 0,.int .u8 0,.int .u8 0,.int .u8 0,.int .u8 0,.int .u8 0,.int .u8 0,.int .u8 0,.int .u8 0,.int .u8 0,.int .u8 0,.int .u8 0,.int .u8 0,.int .u8 0,.int .u8 0,.int .u8 0,.int .u8 0,.int .u8 0,.int .u8 0,.int .u8 0,.int .u8 0,.int .u8 0,.int .u8 0,.int .u8 0,.int .u8 0,.int .u8 0,.int .u8 0,.int .u8 0,.int .u8 0,.int .u8 0,.int .u8 0,.int .u8 0,.int .u8 0,.int .u8 0,.int .u8 0,.int .u8 0,.int .u8 0,.int .u8 0,.int .u8 0,.int .u8 0,.int .u8 0,.int .u8 0,.int .u8 0,.int .u8 0,.int .u8 0,.int .u8 0,.int .u8 0,.int .u8 0,.int .u8 0,.int .u8 0,.int .u8 0,.int .u8 0,.int .i64 0,.int .u64 0] [])),kc 2 (.box (ι.t 12) (.t 1)),kB 0 2] .ret)
def jk:List RV:=[.t 0]
def jl (ι:bh):S:=
 kY [kd 2 (.new (ι.t 9) (Array.replicate 32 (.int .u8 0)))] (kY [kc 4 (kg (ι.f 13) []),kB 3 4] (kY [kA 5 3,kA 6 0,kc 7 (kg (ι.f 8) [.t 5,.t 6])] (kY [kA 8 3,kc 9 (kg (ι.f 11) [.t 8]),kf (.stn 32 (.v 2) (.t 9))] .ret)))
def jm:List RV:=[.cn 2 32]
def gE (ι:bh):S:=
 kY [kC 2 (kZ)] (kY [kA 3 0,kA 4 0,kL 5 4,kU 6 (.m (.mn (.t 5) (.c (.int .i64 600)))),kU 7 (.m (.sls 1 (.t 3) .none (.some (.t 6)))),kB 2 7] .ret)
def gF:List RV:=[.t 2]
def dz (p:List UInt8):List UInt8:=
 let l:=(bA (List.replicate 136 0) 0 (aA p)).set (p.length % 136) 6
 l.set 135 (l.getD 135 0^^^128)
def mA (s:List UInt64) (i:Nat):UInt8:=(s.getD (i/8) 0>>>(8*(i % 8):Nat).toUInt64).toUInt8
def gG (s:List UInt64) (n:Nat):List UInt8:=iter n (fun o i=>o.set i (mA s i)) (List.replicate 32 0)
def cx (p:List UInt8):List UInt8:=gG (aS (bz p) (dz p)) 32
theorem jn (p:List UInt8):(dz p).length=136:=by
 have:=cL p;have:p.length % 136<136:=Nat.mod_lt _ (by omega);simp only[dz,List.length_set];rw[eY (by simp;omega)];simp
theorem fc (s:List UInt64) (n:Nat):(gG s n).length=32:=by
 unfold gG;rw[aM (by simp)];simp
theorem cy (p:List UInt8):(cx p).length=32:=fc _ _
theorem mB (l:List UInt64):iX (bn l).toArray:=by
 intro x hx;simp[bn]at hx;obtain⟨y,_,rfl⟩:=hx;rfl
theorem j4 (x:UInt8):(BitVec.ofInt 8 (x.toNat:Int))=x.toBitVec:=by
 apply BitVec.eq_of_toNat_eq;simp
theorem lh (x:UInt8):bits .xor .u8 (x.toNat:Int) 128=((x^^^128).toNat:Int):=by
 show IntKind.u8.wrap ((BitVec.ofInt 8 (x.toNat:Int)^^^BitVec.ofInt 8 ((128:UInt8).toNat:Int)).toNat:Int)=_
 rw[j4,j4];have:=(x^^^128).toNat_lt
 show IntKind.u8.wrap ((x^^^128).toNat:Int)=_
 rw[IntKind.wrap_u8];omega
theorem uI (x:UInt64) (n:Nat) (hn:n<64):IntKind.u8.wrap ((x.toNat:Int)/2^n)=((x>>>n.toUInt64).toUInt8.toNat:Int):=by
 rw[IntKind.wrap_u8,UInt64.toNat_toUInt8,UInt64.toNat_shiftRight,Nat.shiftRight_eq_div_pow];have:n.toUInt64.toNat % 64=n:=by
  show(UInt64.ofNat n).toNat % 64=n
  rw[UInt64.toNat_ofNat'];omega
 rw[this];simp
def fe (P:Program) (ι:bh) (k:FuncId):Prop:=∀(b:Nat) (p:List UInt8) (H:Hp),iJ H b p->aE ι H→
 ai P k #[.pointer (some ⟨b,0,none⟩)] H fun r H'=>r=.agg (w8 (cx p)).toArray/\ae (fun _=>False) H H'
variable {P:Program} {ι:bh} {k:FuncId}
theorem n0 (hk:ah P k (jh ι) ji 1) (ha:bU P ι (ι.f 7)):fe P ι k:=by
 intro b p H hb hG;obtain⟨buf,hl,ht,hB⟩:=hb;have hs:=eU p;refine ag hk (args:=[_]) (by simp) ?_;unfold jh ji kA kB kC kD ke kM kN kP kU kV kc kd kf kg kY;have hn:(false !=false)=false:=rfl;have qH:=hB.lt;simp only[go_sem,zS,↓reduceIte,Za,Zb,Zc,reduceCtorEq,hn];refine aR fun H1 b1 e1 z1 B1 K1=>?_;have hT:(List.take 25 (List.drop 0 (aH (bz p) buf ((p.length % 136:Nat):Int) (UInt64.ofNat p.length).toNat)))=bn (bz p):=by
  rw[List.drop_zero];unfold aH;rw[List.take_append_of_le_length (by rw[aQ,hs];omega),List.take_of_length_le (by rw[aQ,hs];omega)]
 simp only[go_sem,zS,↓reduceIte,Za,Zb,Zc,reduceCtorEq,hn,(K1.bl hB (by simp)).aJ (o:=0) (n:=25) (by rw[dx hs hl];omega),cr,hT];refine aR fun H2 b2 e2 z2 B2 K2=>?_;have n9:(bn (bz p)).length=25:=by rw[aQ,hs]
 simp only[go_sem,zS,↓reduceIte,Za,Zb,Zc,reduceCtorEq,eg,c9,bo];refine⟨⟨B2.eo (by simp),by simp[n9],mB _⟩,?_⟩;have uJ:=B2.a6 0 (bn (bz p));rw[ec _ _ (by simp[n9])]at uJ;have p7:ae (fun _=>False) H (a6 H2 ⟨b2,0,none⟩ (bn (bz p))):=(K1.trans K2).a6 _ (.inr (by simp only[];omega));have vw:=(K2.bl B1 (by simp)).nR (p:=⟨b2,0,none⟩) (bn (bz p)) (by simp only[];omega);refine ef fun H3 e3=>?_;rw[<-e3]at uJ p7 vw;have z3:H3.size=H2.size:=by rw[e3,du]
 simp only[go_sem,zS,↓reduceIte,Za,Zb,Zc,reduceCtorEq];refine aR fun H4 b4 e4 z4 B4 K4=>?_;have hm:p.length % 136<136:=Nat.mod_lt _ (by omega);have pZ:=(p7.trans K4).bl hB (by simp);have htl:=cL p;have mr:bD H4 (.slice (some ⟨b,25,none⟩) (p.length % 136) 136) (p.length % 136)=some (w8 (aA p)).toArray:=by
  have:=aC.bl pZ 25 (p.length % 136) 136 (by omega) (by rw[dx hs hl];omega);have e:List.take (p.length % 136) (List.drop 25 (aH (bz p) buf ((p.length % 136:Nat):Int) (UInt64.ofNat p.length).toNat))=w8 (aA p):=by
   unfold aH;rw[List.drop_append_of_le_length (by rw[n9];omega),List.drop_of_length_le (by rw[n9];omega),List.nil_append,
    List.take_append_of_le_length (by rw[af];omega),ee,ht]
  rw[e]at this;rw[this.bD (by rw[af,htl];omega),List.take_of_length_le (by rw[af,htl];omega)]
 simp(disch:=omega)only[go_sem,zS,↓reduceIte,Za,Zb,Zc,reduceCtorEq,pZ.cell,da hs hl,Nat.min_eq_left];have hz:(Array.replicate 136 (Value.int .u8 0)).toList=w8 (List.replicate 136 0):=by rw[<-je];rfl
 rw[hz]at B4;refine⟨⟨by omega,by omega⟩,_,mr,B4.b6 0 0 _ (bS _) (by simp[af,htl];omega),?_⟩;have B5:=B4.put 0 0 (w8 (aA p)).toArray;rw[show(0+0:Nat)=0 from rfl,pa]at B5;have K5:ae (fun _=>False) H (bE H4 (some ⟨b4,0,none⟩) 0 (w8 (aA p)).toArray):=(p7.trans K4).put rfl _ _ (.inr (by simp only[];omega));have C1:=(K4.bl vw (by simp)).mm (p:=⟨b4,0,none⟩) rfl 0 (w8 (aA p)).toArray (by simp only[];omega);have C2:=(K4.bl uJ (by simp)).mm (p:=⟨b4,0,none⟩) rfl 0 (w8 (aA p)).toArray (by simp only[];omega);refine ef fun H5 e5=>?_;rw[<-e5]at B5 K5 C1 C2;have z5:H5.size=H4.size:=by rw[e5,fS]
 have tG:=K5.bl hB (by simp);have l0:(bA (List.replicate 136 0) 0 (aA p)).length=136:=by rw[eY (by simp;omega)];simp
 have rF:dz p=((bA (List.replicate 136 0) 0 (aA p)).set (p.length % 136) 6).set 135 (((bA (List.replicate 136 0) 0 (aA p)).set (p.length % 136) 6).getD 135 0^^^128):=rfl;generalize vz:bA (List.replicate 136 0) 0 (aA p)=L0 at*;have g0:=bR L0 (p.length % 136) (by omega);simp(disch:=omega)only[go_sem,zS,↓reduceIte,Za,Zb,Zc,reduceCtorEq,tG.cell,da hs hl,B5.cell,B5.cE,g0];refine⟨⟨by omega,by omega⟩,?_⟩;have B6:=B5.al (p.length % 136) (.int .u8 ((6:UInt8).toNat));rw[eQ]at B6;have K6:=K5.al (p:=⟨b4,p.length % 136,none⟩) (.int .u8 ((6:UInt8).toNat)) (.inr (by simp only[];omega));have D1:=C1.aZ (p:=⟨b4,p.length % 136,none⟩) (.int .u8 ((6:UInt8).toNat)) (by simp only[];omega);have D2:=C2.aZ (p:=⟨b4,p.length % 136,none⟩) (.int .u8 ((6:UInt8).toNat)) (by simp only[];omega);refine ef fun H6 e6=>?_
 change H6=al H5 ⟨b4,p.length % 136,none⟩ (.int .u8 ((6:UInt8).toNat))at e6
 rw[<-e6]at B6 K6 D1 D2;have z6:H6.size=H5.size:=by rw[e6,aX]
 have g1:=bR (L0.set (p.length % 136) 6) 135 (by simp;omega);simp(disch:=omega)only[go_sem,zS,↓reduceIte,Za,Zb,Zc,reduceCtorEq,B6.cell,B6.cE,g1,lh];refine⟨⟨by omega,by omega⟩,⟨by omega,by omega⟩,?_⟩;have B7:=B6.al 135 (.int .u8 (((L0.set (p.length % 136) 6).getD 135 0^^^128).toNat));rw[eQ,<-rF]at B7;have K7:=K6.al (p:=⟨b4,135,none⟩) (.int .u8 (((L0.set (p.length % 136) 6).getD 135 0^^^128).toNat)) (.inr (by simp only[];omega));have E1:=D1.aZ (p:=⟨b4,135,none⟩) (.int .u8 (((L0.set (p.length % 136) 6).getD 135 0^^^128).toNat)) (by simp only[];omega);have E2:=D2.aZ (p:=⟨b4,135,none⟩) (.int .u8 (((L0.set (p.length % 136) 6).getD 135 0^^^128).toNat)) (by simp only[];omega);refine ef fun H7 e7=>?_;rw[<-e7]at B7 K7 E1 E2;have z7:H7.size=H6.size:=by rw[e7,aX]
 simp(disch:=omega)only[go_sem,zS,↓reduceIte,Za,Zb,Zc,reduceCtorEq];have wY:=hG.ax K7 (by simp) (by simp);have xQ:=jn p;refine(ha b2 (bz p) [] b4 0 136 (dz p) hs _ (by simpa using E2) (hG.new (by omega)) wY (fun i hi=>by rw[B7.cell,Nat.zero_add,bR _ _ (by omega)]) (fun e=>by omega)).mono ?_;rintro v H8 ⟨rfl,B8,K8⟩;simp only[go_sem,zS,↓reduceIte,Za,Zb,Zc,reduceCtorEq,List.append_nil]at B8⊢;have wZ:=K8.bl E1 (by omega);have w4:ae (fun _=>False) H H8:=K7.trans' K8 (fun i hi e=>by omega);have z8:=K8.size;rw[aa];simp only[go_sem,zS,↓reduceIte,Za,Zb,Zc,reduceCtorEq];refine aR fun H9 b9 e9 z9 B9 K9=>?_;have F1:=K9.bl wZ (by simp);have F2:=K9.bl B8 (by simp);have w5:=w4.trans K9;have hz:(Array.replicate 32 (Value.int .u8 0)).toList=w8 (List.replicate 32 0):=by rw[<-je];rfl
 rw[hz]at B9;generalize hS:aS (bz p) (dz p)=s at*;have hsl:s.length=25:=by rw[<-hS,cu];exact hs
 simp only[go_sem,zS,↓reduceIte,Za,Zb,Zc,reduceCtorEq,aa];refine aD [36,6,35] rfl (fun n f H'=>∃i,i<=32/\n=32 -i/\f 35=.int .i64 i/\Bl H' b9 (w8 (gG s i))/\Bl H' b2 (bn s)/\Bl H' b1 (Array.replicate 32 (Value.int IntKind.u8 0)).toList/\ae (fun _=>False) H H') 32
  ⟨0,by omega,by omega,rfl,B9,F2,F1,w5⟩ ?_
 rintro n g HA ⟨i,uK,rfl,p8,BA,SA,UA,KA⟩;simp only[go_sem,zS,↓reduceIte,Za,Zb,Zc,reduceCtorEq,aa]at p8;simp only[go_sem,zS,↓reduceIte,Za,Zb,Zc,reduceCtorEq,aa,p8];refine au (fun hlt=>?_) (fun o8=>?_)
 ·have hi:i<32:=by omega
  have hq:(i:Int).tdiv 8=((i/8:Nat):Int):=by rw[Int.tdiv_eq_ediv_of_nonneg (by omega)];omega
  have hr:(i:Int).tmod 8=((i % 8:Nat):Int):=by rw[Int.tmod_eq_emod_of_nonneg (by omega)];omega
  have h8:(8*((i % 8:Nat):Int))=((8*(i % 8):Nat):Int):=by omega
  have ga:=cD s (i/8) (by omega);have gb:=bR (gG s i) i (by rw[fc];exact hi);simp(disch:=omega)only[go_sem,zS,↓reduceIte,Za,Zb,Zc,reduceCtorEq,aa,p8,hq,hr,h8,IntWalk.i64_in,SA.cell,BA.cell,BA.cE,ga,gb,aq,uI];refine⟨by omega,⟨by omega,by omega⟩,by omega,⟨by omega,by omega⟩,⟨by omega,by omega⟩,32 -(i+1),by omega,i+1,by omega,rfl,by simp,?_,SA.aZ _ (by simp only[];omega),UA.aZ _ (by simp only[];omega),KA.al _ (.inr (by simp only[];omega))⟩;have:=BA.al i (.int .u8 (mA s i).toNat);rw[eQ]at this;exact this
 ·have hi:i=32:=by omega
  subst hi;have qH:=fc s 32;have rG:List.take 32 (w8 (gG s 32))=w8 (gG s 32):=List.take_of_length_le (by rw[af,qH];omega);have U2:=UA.a6 0 (w8 (gG s 32));rw[ec _ _ (by simp[af,qH])]at U2;have w7:cx p=gG s 32:=by unfold cx;rw[hS]
  simp only[cr,c9,eg,BA.aJ (o:=0) (n:=32) (by rw[af,qH];omega),List.drop_zero,rG,Option.isSome_some,Option.getD_some,bo,true_and,
   U2.aJ (o:=0) (n:=32) (by rw[af,qH];omega)]
  exact⟨⟨UA.eo (by simp),by simp[af,qH],bS _⟩,by rw[w7],KA.a6 _ (.inr (by simp only[];omega))⟩
def rH:List Value:=aH (List.replicate 25 0) (List.replicate 136 0) 0 0
theorem rI {H:Hp} {b:Nat} (h:Bl H b rH):iJ H b []:=⟨List.replicate 136 0,by simp,rfl,h⟩
def j5 (P:Program) (k:FuncId):Prop:=∀H,ai P k #[] H fun r H'=>r=.pointer (some ⟨H.size,0,none⟩)/\iJ H' H.size []/\ae (fun _=>False) H H'/\H'.size=H.size+1
theorem oc (hk:ah P k (jj ι) jk 0):j5 P k:=by
 intro H;refine ag hk (args:=[]) (by simp) ?_;unfold jj jk kB kC kU kc kY;simp only[go_sem,zS,↓reduceIte,Za,Zb,Zc,reduceCtorEq,bN,bW,bo];refine aR fun H1 b1 e1 z1 B1 K1=>?_;subst e1;simp only[go_sem,zS,↓reduceIte,Za,Zb,Zc,reduceCtorEq];exact⟨rI B1,K1,z1⟩
def cz (P:Program) (ι:bh) (k:FuncId):Prop:=∀(p:List UInt8) (v:Value) (H:Hp),aC H v (w8 p)->aE ι H→
 ai P k #[v] H fun r H'=>r=.agg (w8 (cx p)).toArray/\ae (fun _=>False) H H'
theorem od (hk:ah P k (jl ι) jm 1) (hnew:j5 P (ι.f 13)) (hw:dy P ι (ι.f 8)) (hs:fe P ι (ι.f 11)):cz P ι k:=by
 intro p v H hv hG;refine ag hk (args:=[_]) (by simp) ?_;unfold jl jm kA kB kc kd kf kg kY;simp only[go_sem,zS,↓reduceIte,Za,Zb,Zc,reduceCtorEq];refine aR fun H1 b1 e1 z1 B1 K1=>?_;simp only[go_sem,zS,↓reduceIte,Za,Zb,Zc,reduceCtorEq];refine(hnew _).mono ?_;rintro r H2 ⟨rfl,B2,K2,z2⟩;simp only[go_sem,zS,↓reduceIte,Za,Zb,Zc,reduceCtorEq,aa];have w9:=hG.ax (K1.trans K2) (by simp) (by simp);have hv2:=hv.ax (K1.trans K2) (by simp);refine(hw _ _ _ _ _ B2 hv2 (fun h=>by have:=hv.nS h;omega) (hG.new (by omega)) w9).mono ?_;rintro r H3 ⟨rfl,B3,K3⟩;have ni:ae (fun _=>False) H H3:=(K1.trans K2).trans' K3 (fun i hi e=>by omega);have z3:=K3.size;simp only[go_sem,zS,↓reduceIte,Za,Zb,Zc,reduceCtorEq,aa,List.nil_append]at B3⊢;refine(hs _ _ _ B3 (hG.ax ni (by simp) (by simp))).mono ?_;rintro r H4 ⟨rfl,K4⟩;have U:=K4.bl (K3.bl (K2.bl B1 (by simp)) (by omega)) (by simp);have hl:(w8 (cx p)).length=32:=by rw[af,cy]
 have U2:=U.a6 0 (w8 (cx p));rw[ec _ _ (by simp[hl])]at U2;have rG:List.take 32 (w8 (cx p))=w8 (cx p):=List.take_of_length_le (by omega);simp only[go_sem,zS,↓reduceIte,Za,Zb,Zc,reduceCtorEq,aa,eg,c9,cr,bo,U2.aJ (o:=0) (n:=32) (by omega),List.drop_zero,rG];exact⟨⟨U.eo (by simp),by simp[hl],bS _⟩,(ni.trans K4).a6 _ (.inr (by simp only[];omega))⟩
def fU (P:Program) (k:FuncId):Prop:=∀(p:List UInt8) (v:Value) (H:Hp),aC H v (w8 p)->ai P k #[v] H fun r H'=>aC H r (w8 (p.take 600))/\(∀k,cQ r k->cQ v k)/\H'=H
theorem mC (hk:ah P k (gE ι) gF 1):fU P k:=by
 intro p v H hv;have hmk:=hv.mk;obtain⟨a,c,rfl,hc⟩:=hmk;rw[af]at hc;refine ag hk (args:=[_]) (by simp) ?_;unfold gE gF kA kB kC kL kU kY kZ;have e:(if(600:Int)<(p.length:Int)then(600:Int)else(p.length:Int))=((min p.length 600:Nat):Int):=by split<;>omega
 have h1:=hv.take (n:=min p.length 600) (by rw[af];omega);have h2:(w8 p).take (min p.length 600)=w8 (p.take 600):=by
  rw[ee];congr 1;rcases Nat.le_total p.length 600 with h|h
  ·rw[Nat.min_eq_left h,List.take_of_length_le (Nat.le_refl _),List.take_of_length_le h]
  ·rw[Nat.min_eq_right h]
 rw[h2]at h1;have h3:∀k,cQ (fK (.slice a (w8 p).length c) 1 none (some ((min p.length 600:Nat):Int))) k->cQ (.slice a (w8 p).length c) k:=fun k=>ml (by simp only[av,af];omega);simp only[k7]at h1 h3;simp only[go_sem,zS,↓reduceIte,Za,Zb,Zc,reduceCtorEq,aa,af,e]at h1 h3⊢;exact⟨⟨by omega,by omega⟩,h1,h3⟩
end Go.Mg
