/- Lemmas of ours. No conditions. -/
import Derived.Test.YtoclemmcphgikaaGreatDoorMgTvk
open Bool renaming false→ZS,true→ZT
open Go renaming Value→ZR
open Go.IntKind renaming i64→ZY,u8→ZX
open Go.Value renaming int→Z8,pointer→Z7,slice→Z6
open Option renaming none→ZU,some→ZV
open Array renaming ext'→Xy,getElem?_modify→XH,length_toList→W5,size_range→Wa,toList_append→YI,toList_extract→XE,toList_map→XF
open Bool renaming false_eq_true→ZD
open Function renaming comp_def→Vy
open Int renaming toNat_natCast→Zo
open List renaming drop_drop→XN,drop_left'→VY,drop_take→Xg,drop_zero→XB,eq_nil_of_length_eq_zero→YG,extract_eq_take_drop→YD,flatMap_append→Yo,flatMap_cons→Zq,getD_eq_getElem?_getD→ZP,getElem?_drop→Xn,getElem?_eq_getElem→ZO,getElem?_take→YZ,length_append→ZK,length_map→YM,length_nil→Zx,map_set→VG,nil_append→XG,replicate→ZM,size_toArray→WZ,take_left'→Yb,take_length→ZI,take_of_length_le→Zy,take_take→XO
open Nat renaming add_comm→Xc,add_mul→Yi,add_sub_cancel_left→Yv,add_sub_of_le→V7,le_of_eq→WU,le_refl→ZH,le_trans→Zp,min_eq_left→Yh,mul_le_mul→WQ,mul_le_mul_right→YT,mul_one→Zs,succ_mul→Xq,zero_add→Zt,zero_le→Xf,zero_mul→Wv
open Option renaming isSome_none→Ys,map_some→YQ,some→VL
set_option linter.all false
namespace Go.Mg
open Go Go.RowKit
@[go_sem] theorem MR (a:Option Addr) (l c size:Nat) (lo hi:Option Int):xW (.slice a l c) size lo hi=.slice (if c=pz lo then a else a.map (·.add (pz lo*size))) (DM l hi -pz lo) (c -pz lo):=rfl
@[go_sem] theorem ahx (a:Addr) (n size:Nat) (lo hi:Option Int):aeV (Z7 (ZV a)) n size lo hi=Z6 (ZV (if n=pz lo then a else a.add (pz lo*size))) (DM n hi -pz lo) (n -pz lo):=rfl
@[go_sem] theorem ai9 (r:A->ZR) (x:A):oi r (ZV x)=ZV (r x).i:=rfl
@[go_sem] theorem aja (r:A->ZR):oi r ZU=ZU:=rfl
@[go_sem] theorem afk (a:Option Addr) (n c size l h m:Nat):aeW (.slice a n c) size l h m=.slice (if m=l then a else a.map (·.add (l*size))) (h -l) (m -l):=rfl
attribute [go_sem] YQ Option.map_none Option.getD_none Int.toNat_zero Nat.sub_zero Nat.add_zero
@[go_sem] theorem mh (n:Nat):((no_index (OfNat.ofNat n):Int)).toNat=OfNat.ofNat n:=by
 show((n:Nat):Int).toNat=n
 simp
def rE (l:List ZR) (off:Nat) (xs:List ZR):List ZR:=l.take off++xs++l.drop (off+xs.length)
def aaf (l:List ZR) (off:Nat):rE l off []=l:=by simp[rE]
variable {l xs m:List ZR} {off b o n c k bytes:Nat} {H A B H':Hp} {p:Addr} {W:Nat->Prop} {T:TypeId} {v s x:ZR} {z:Array ZR} {P:Program} {d:D} {r:List O} {e:Env} {f:Fr} {Q:Fr->Hp->Prop} {K:ZR->Hp->Prop}
def nu (h:off+xs.length<=l.length):(rE l off xs).length=l.length:=by
 simp[rE];omega
def pU (l xs:List ZR) (h:xs.length=l.length):rE l 0 xs=xs:=by simp[rE,h]
def jB (hb:b≠p.block):(aB H p xs)[b]?=H[b]?:=by
 unfold aB;rw[XH,if_neg (fun e=>hb e.symm)]
def ig (H:Hp) (p:Addr) (xs:List ZR):(aB H p xs).size=H.size:=by simp[aB]
def Bl.aB (h:Bl H b l) (o:Nat) (xs:List ZR):Bl (Mg.aB H ⟨b,o,ZU⟩ xs) b (rE l o xs):=by
 obtain⟨T,h⟩:=h;refine⟨T,?_⟩;rw[vf (p:=⟨b,o,ZU⟩) h,dN h];simp[jx,rE]
def af.aB (h:af W A B) (xs:List ZR) (hp:W p.block\/A.size<=p.block):af W A (Mg.aB B p xs):=by
 refine⟨by rw[ig];exact h.size,fun k hk hw=>?_⟩;rw[jB (by rintro rfl;rcases hp with hp|hp;exact hw hp;omega)];exact h.at_ k hk hw
def Bl.bG (h:Bl H b l) (hn:o+n<=l.length):Mg.bG H ⟨b,o,ZU⟩ n:=by
 have h':=h;obtain⟨T,h⟩:=h;exact⟨rfl,_,_,_,h,by simpa using hn,fun i _=>h'.tL _⟩
def Bl.aQ (h:Bl H b l) (hn:o+n<=l.length):Mg.aQ H ⟨b,o,ZU⟩ n=ZV ((l.drop o).take n).toArray:=by
 obtain⟨T,h⟩:=h;unfold Mg.aQ;simp only[h,Ys,ZD,if_false,WZ,hn,if_true];simp[YD]
def Bl.aL (h:Bl H b l) (n:Nat) (hn:n=l.length):Mg.aL H (Z7 (ZV ⟨b,0,ZU⟩)) n=ZV l.toArray:=by
 subst hn;have:=h.aQ (o:=0) (n:=l.length) (by omega);simpa[Mg.aL]using this
def aP (H:Hp) (v:ZR) (l:List ZR):Prop:=
 (∃a c,v=.slice a 0 c/\l=[])\/∃b o c,l≠[]/\v=Z6 (ZV ⟨b,o,ZU⟩) l.length c/\l.length<=c/\∃C T z,H[b]?=ZV (.cells C T z)/\o+l.length<=C.size/\(C.toList.drop o).take l.length=l
def aV:ZR->Nat->Prop
 |.slice (ZV p) n _,k=>k=p.block/\n≠0
 |_,_=>False
def aP.nil (H:Hp) (a:Option Addr) (c:Nat):aP H (.slice a 0 c) []:=.inl ⟨a,c,rfl,rfl⟩
def aP.at_ {C:Array ZR} {z:Nat×Nat} (hc:l.length<=c) (h:H[b]?=ZV (.cells C T z)) (h1:o+l.length<=C.size) (h2:(C.toList.drop o).take l.length=l):
  aP H (Z6 (ZV ⟨b,o,ZU⟩) l.length c) l:=by
 by_cases hl:l=[]
 ·subst hl;exact aP.nil _ _ _
 ·exact .inr ⟨b,o,c,hl,rfl,hc,C,T,z,h,h1,h2⟩
def aP.congr (h:aP H v l) (hk:∀k,aV v k->H'[k]?=H[k]?):aP H' v l:=by
 rcases h with h|⟨b,o,c,hl,rfl,h0,C,T,z,h1,h2,h3⟩
 ·exact .inl h
 ·exact .inr ⟨b,o,c,hl,rfl,h0,C,T,z,by rw[hk b ⟨rfl,by simpa using hl⟩];exact h1,h2,h3⟩
def aP.bo (h:aP H v l) (hk:aV v k):k<H.size:=by
 rcases h with⟨a,c,rfl,_⟩|⟨b,o,c,_,rfl,h0,C,T,z,h1,h2,h3⟩
 ·cases a<;>simp[aV]at hk
 ·obtain⟨rfl,_⟩:=hk;exact(Array.getElem?_eq_some_iff.1 h1).1
def aP.ai (h:aP H v l) (hk:af W H H') (hw:∀k,aV v k->¬W k):aP H' v l:=
 h.congr fun k hb=>hk.at_ k (h.bo hb) (hw k hb)
def aP.aq (h:aP H v l):Mg.aq v:=by
 rcases h with⟨a,c,rfl,_⟩|⟨b,o,c,_,rfl,_⟩<;>trivial
def aP.len (h:aP H v l):aW v=l.length:=by
 rcases h with⟨a,c,rfl,rfl⟩|⟨b,o,c,_,rfl,_⟩<;>rfl
def aP.cP (h:aP H v l):Mg.cP v=l.length:=by
 rcases h with⟨a,c,rfl,rfl⟩|⟨b,o,c,_,rfl,_⟩<;>rfl
def Gd (H:Hp) (a:Option Addr) (n c:Nat):Mg.iV H (.slice a n c) 0=ZV #[]:=by
 cases a<;>simp[Mg.iV]
def aP.iV (h:aP H v l) (hk:k<=l.length):Mg.iV H v k=ZV (l.take k).toArray:=by
 rcases h with⟨a,c,rfl,rfl⟩|⟨b,o,c,_,rfl,h0,C,T,z,h1,h2,h3⟩
 ·have:k=0:=by simpa using hk
  subst this;rw[Gd];simp
 ·show(if k=0 then ZV #[]else Mg.aQ H ⟨b,o,ZU⟩ k)=_
  split
  ·rename_i hk0;subst hk0;simp
  ·simp only[Mg.aQ,Ys,ZD,if_false,h1];rw[if_pos (by omega)]
   congr 1
   apply Xy;simp only[XE,YD,Yv];rw[<-h3,XO,Yh hk]
def aP.bl (h:Bl H b l) (o n c:Nat) (hc:n<=c) (hn:o+n<=l.length):aP H (Z6 (ZV ⟨b,o,ZU⟩) n c) ((l.drop o).take n):=by
 obtain⟨T,h⟩:=h;have e:((l.drop o).take n).length=n:=by simp;omega
 have:=aP.at_ (l:=(l.drop o).take n) (o:=o) (c:=c) (by rw[e];exact hc) h (by rw[e];simpa using hn) (by rw[e])
 rwa [e]at this
def aP.drop (h:aP H v l) (hn:n<=l.length):aP H (xW v 1 (ZV (n:Int)) ZU) (l.drop n):=by
 rcases h with⟨a,c,rfl,rfl⟩|⟨b,o,c,hne,rfl,h0,C,T,z,h1,h2,h3⟩
 ·have:n=0:=by simpa using hn
  subst this;exact .inl ⟨_,c -0,rfl,by simp⟩
 ·have hl:(l.drop n).length=l.length -n:=by simp
  by_cases hc:c=n
  ·have:=aP.at_ (l:=l.drop n) (o:=o) (c:=c -n) (by omega) h1 (by omega) (by
    rw[hl]
    conv=>rhs;rw[<-h3]
    rw[Xg];have:l.length -n=0:=by omega
    simp[this])
   rw[hl]at this;simp[xW,pz,DM,hc]at this⊢;exact this
  ·have:=aP.at_ (l:=l.drop n) (o:=o+n) (c:=c -n) (by omega) h1 (by omega) (by
    rw[hl]
    conv=>rhs;rw[<-h3]
    rw[Xg,XN])
   rw[hl]at this;simp[xW,pz,DM,hc,fW]at this⊢;exact this
def aP.mk (h:aP H v l):∃a c,v=.slice a l.length c/\l.length<=c:=by
 rcases h with⟨a,c,rfl,rfl⟩|⟨b,o,c,_,rfl,h0,_⟩
 ·exact⟨a,c,rfl,Xf _⟩
 ·exact⟨_,c,rfl,h0⟩
def Ep {z:Nat} {n:Int} (h:aV (xW v z (ZV n) ZU) k):aV v k:=by
 cases v with
 |slice a m c=>
  cases a with
  |none=>simp[xW,aV]at h
  |some p=>
   simp only[xW]at h
   split at h
   ·exact⟨h.1,by have:=h.2;simp only[DM]at this;omega⟩
   ·simp only[YQ,aV,Addr.add]at h;have:(p.add (pz (ZV n)*z)).block=p.block:=by unfold Addr.add;split<;>rfl
    exact⟨h.1.trans this,by have:=h.2;simp only[DM]at this;omega⟩
 |_=>exact h
def PU {z:Nat} (hn:n<=aW v) (h:aV (xW v z ZU (ZV (n:Int))) k):aV v k:=by
 cases v with
 |slice a m c=>
  cases a with
  |none=>simp[xW,aV]at h
  |some p=>
   simp only[aW]at hn;simp only[xW]at h
   split at h
   ·exact⟨h.1,by have:=h.2;simp only[DM,Zo]at this;omega⟩
   ·simp only[YQ,aV,Addr.add]at h;have:(p.add (pz ZU*z)).block=p.block:=by unfold Addr.add;split<;>rfl
    exact⟨h.1.trans this,by have:=h.2;simp only[DM,Zo]at this;omega⟩
 |_=>exact h
def aP.take (h:aP H v l) (hn:n<=l.length):aP H (xW v 1 ZU (ZV (n:Int))) (l.take n):=by
 rcases h with⟨a,c,rfl,rfl⟩|⟨b,o,c,hne,rfl,h0,C,T,z,h1,h2,h3⟩
 ·have:n=0:=by simpa using hn
  subst this;exact .inl ⟨_,c -0,rfl,by simp⟩
 ·have hl:(l.take n).length=n:=by simp;omega
  have:=aP.at_ (l:=l.take n) (o:=o) (c:=c) (by omega) h1 (by omega) (by
   rw[hl]
   conv=>rhs;rw[<-h3]
   rw[XO,Yh hn])
  rw[hl]at this;simp[xW,pz,DM,fW]at this⊢;exact this
def aP.cap (h:aP H v l):l.length<=iw v:=by
 rcases h with⟨a,c,rfl,rfl⟩|⟨b,o,c,_,rfl,h0,_⟩
 ·exact Xf _
 ·exact h0
def Bl.put (h:Bl H b l) (o off:Nat) (xs:Array ZR):Bl (kq H (ZV ⟨b,o,ZU⟩) off xs) b (rE l (o+off) xs.toList):=by
 unfold kq;simp only
 split
 ·rename_i h0;have:xs.toList=[]:=by apply YG;simpa using h0
  rw[this,aaf];exact h
 ·rw[fW _ rfl];exact h.aB _ _
def rL {xs:Array ZR} (hb:b≠p.block) (hs:p.spot=ZU):(kq H (ZV p) off xs)[b]?=H[b]?:=by
 unfold kq;simp only
 split
 ·rfl
 ·rw[fW _ hs];exact jB hb
def MS (H:Hp) (a:Option Addr) (off:Nat) (xs:Array ZR):(kq H a off xs).size=H.size:=by
 unfold kq
 split
 ·rfl
 ·split
  ·rfl
  ·exact ig _ _ _
def af.put (h:af W A B) (hs:p.spot=ZU) (off:Nat) (xs:Array ZR) (hp:W p.block\/A.size<=p.block):af W A (kq B (ZV p) off xs):=by
 refine⟨by rw[MS];exact h.size,fun k hk hw=>?_⟩;rw[rL (by rintro rfl;rcases hp with hp|hp;exact hw hp;omega) hs];exact h.at_ k hk hw
def Bl.lK (h:Bl H b l) (o off:Nat) (xs:Array ZR) (h1:bM xs) (hn:o+off+xs.size<=l.length):lK H (ZV ⟨b,o,ZU⟩) off xs:=by
 refine⟨h1,.inr ?_⟩;rw[fW _ rfl];exact h.bG hn
def w8 (l:List UInt8):List ZR:=l.map fun x=>Z8 ZX x.toNat
def aM (l:List UInt8):(w8 l).length=l.length:=by simp[w8]
def k8 (l:List UInt8) (i:Nat) (h:i<l.length):(w8 l)[i]?=ZV (Z8 ZX (l.getD i 0).toNat):=by
 simp[w8,h]
def afl (a b:List UInt8):w8 (a++b)=w8 a++w8 b:=by simp[w8]
def aag (a:List UInt8) (n:Nat):(w8 a).take n=w8 (a.take n):=by simp[w8]
def aah (a:List UInt8) (n:Nat):(w8 a).drop n=w8 (a.drop n):=by simp[w8]
def vx (l:List UInt8) (i:Nat) (x:UInt8):(w8 l).set i (Z8 ZX x.toNat)=w8 (l.set i x):=by
 simp[w8,VG]
def PV (n:Nat):ZM n (Value.int ZX 0)=w8 (ZM n 0):=by simp[w8]
def aai (l:List UInt8):bM (w8 l).toArray:=by
 intro x hx;simp[w8]at hx;obtain⟨y,_,rfl⟩:=hx;rfl
def qI {k:FuncId} {a:Array ZR} {R:ZR->Hp->Prop} (h:∀Q,Q=R->an P k a H Q):an P k a H R:=h R rfl
def ax
  (h:∀H' b,b=H.size->H'.size=H.size+1->Bl H' b z.toList->af (fun _=>False) H H'->ops P r (d.env (Z7 (ZV ⟨b,0,ZU⟩)) e) (d.fr (Z7 (ZV ⟨b,0,ZU⟩)) f) H' Q):
  zG P d r e f Q (Z7 (ZV ⟨H.size,0,ZU⟩)) (H.push (.cells z T)):=
 h _ _ rfl (by simp) (Bl.dh _ _ _) ((af.refl _ _).push _)
def dx (v:ZR) (n:Nat):(rep #[v] n).toList=ZM n v:=by
 unfold rep;simp[Nat.mod_one,List.map_const']
attribute [go_sem] List.forall_mem_cons Zq List.flatMap_nil WZ List.length_cons Zx List.not_mem_nil false_imp_iff implies_true List.append_nil List.cons_append XG
def aG {m:Nat}
  (h:∀H' b,b=H.size->H'.size=H.size+1->Bl H' b z.toList->af (fun _=>False) H H'->ops P r (d.env (Z6 (ZV ⟨b,0,ZU⟩) m c) e) (d.fr (Z6 (ZV ⟨b,0,ZU⟩) m c) f) H' Q):
  zG P d r e f Q (Z6 (ZV ⟨H.size,0,ZU⟩) m c) (H.push (.cells z T)):=h _ _ rfl (by simp) (Bl.dh _ _ _) ((af.refl _ _).push _)
def Bl.iV (h:Bl H b l) (o n c k:Nat) (hk:o+k<=l.length):Mg.iV H (Z6 (ZV ⟨b,o,ZU⟩) n c) k=ZV ((l.drop o).take k).toArray:=by
 show(if k=0 then ZV #[]else Mg.aQ H ⟨b,o,ZU⟩ k)=_
 split
 ·rename_i h0;subst h0;simp
 ·exact h.aQ hk
def Bl.bO (h:Bl H b l) (o n c:Nat) (hk:o+n<=l.length):Mg.bO H (Z6 (ZV ⟨b,o,ZU⟩) n c)=ZV ((l.drop o).take n).toArray:=by
 show(if n=0 then ZV #[]else Mg.aQ H ⟨b,o,ZU⟩ n)=_
 split
 ·rename_i h0;subst h0;simp
 ·exact h.aQ hk
def aP.bO (h:aP H v l):Mg.bO H v=ZV l.toArray:=by
 rcases h with⟨a,c,rfl,rfl⟩|⟨b,o,c,hl,rfl,h0,C,T,z,h1,h2,h3⟩
 ·cases a<;>rfl
 ·show(if l.length=0 then ZV #[]else Mg.aQ H ⟨b,o,ZU⟩ l.length)=_
  rw[if_neg (by simpa using hl)];simp only[Mg.aQ,Ys,ZD,if_false,h1];rw[if_pos h2]
  congr 1
  apply Xy;simp only[XE,YD,Yv];exact h3
def toBA_w8 (l:List UInt8):toBA (w8 l).toArray=⟨l.toArray⟩:=by
 have:(fun x:UInt8=>UInt8.ofNat (Value.int ZX (x.toNat:Int)).i.toNat)=id:=by funext x;simp[Value.i]
 simp only[toBA,w8,List.map_toArray,List.map_map,Vy];rw[this];simp
def jC {l:List UInt8} (h:bO H v=ZV (w8 l).toArray):KR H v:=by
 refine⟨_,h,fun x hx=>?_⟩;simp[w8]at hx;obtain⟨y,_,rfl⟩:=hx;rfl
attribute [go_sem] true_imp_iff Bool.not_true Bool.not_false
@[go_sem] theorem ajb (b:Bool):(b==ZT)=b:=by cases b<;>rfl
@[go_sem] theorem al7 (b:Bool):(ZS !=b)=b:=by cases b<;>rfl
@[go_sem] theorem al8 (b:Bool):(ZT !=b)=!b:=by cases b<;>rfl
@[go_sem] theorem ajc (b:Bool):(b==ZS)=!b:=by cases b<;>rfl
@[go_sem] theorem ajd (b:Bool):(b !=ZT)=!b:=by cases b<;>rfl
@[go_sem] theorem aje (b:Bool):(b !=ZS)=b:=by cases b<;>rfl
@[go_sem] theorem afm (H:Hp) (z:Array ZR) (T:TypeId) (m:Nat×Nat):Ei (H.push (.cells z T m)) H.size=ZV z.size:=by simp[Ei]
def ajf (H:Hp) (z:Array ZR) (T:TypeId) (n:Nat):af (fun _=>False) H (Uz (H.push (.cells z T)) H.size n)/\(Uz (H.push (.cells z T)) H.size n).size=H.size+1∧
  ∀c,z.size<=c->aP (Uz (H.push (.cells z T)) H.size n) (Z6 (ZV ⟨H.size,0,ZU⟩) z.size c) z.toList:=by
 have hs:(Uz (H.push (.cells z T)) H.size n).size=H.size+1:=by simp[Uz]
 refine⟨⟨by omega,fun k hk _=>?_⟩,hs,fun c hc=>?_⟩
 ·unfold Uz;rw[XH,if_neg (by omega)];exact fh hk
 ·have hm:(Uz (H.push (.cells z T)) H.size n)[H.size]?=ZV (.cells z T (n,n+1)):=by
   unfold Uz;rw[XH,if_pos rfl];simp
  have:=aP.at_ (l:=z.toList) (o:=0) (c:=c) (by simpa using hc) hm (by simp) (by rw[XB,Zy (ZH _)]);simpa using this
def af.none (h:af W A B) (hw:∀k,k<A.size->¬W k):af (fun _=>False) A B:=
 h.mono (fun k hk hW=>hw k hk hW)
def af.any (h:af (fun _=>False) A B):af W A B:=h.mono (fun _ _ h=>h.elim)
def gw (H:Hp) (a:Addr) (xs:List ZR):ML H (Z7 (ZV a)) xs=aB H a xs:=rfl
def k9 (H:Hp) (a:Addr) (n:Nat):okN H (Z7 (ZV a)) n=bG H a n:=rfl
def aC (H:Hp) (a:Addr) (n:Nat):aL H (Z7 (ZV a)) n=aQ H a n:=rfl
def bd (C:Array ZR):(Value.agg C).cells=C:=rfl
@[go_sem] theorem ajv (a:ZR):(#[a]:Array ZR)[0]?=ZV a:=rfl
@[go_sem] theorem ajw (a b:ZR):(#[a,b]:Array ZR)[0]?=ZV a:=rfl
@[go_sem] theorem ajx (a b:ZR):(#[a,b]:Array ZR)[1]?=ZV b:=rfl
@[go_sem] theorem ajy (a b c:ZR):(#[a,b,c]:Array ZR)[0]?=ZV a:=rfl
@[go_sem] theorem ajz (a b c:ZR):(#[a,b,c]:Array ZR)[1]?=ZV b:=rfl
@[go_sem] theorem ajA (a b c:ZR):(#[a,b,c]:Array ZR)[2]?=ZV c:=rfl
@[go_sem] theorem ajB (a b c d:ZR):(#[a,b,c,d]:Array ZR)[0]?=ZV a:=rfl
@[go_sem] theorem ajC (a b c d:ZR):(#[a,b,c,d]:Array ZR)[1]?=ZV b:=rfl
@[go_sem] theorem ajD (a b c d:ZR):(#[a,b,c,d]:Array ZR)[2]?=ZV c:=rfl
@[go_sem] theorem ajE (a b c d:ZR):(#[a,b,c,d]:Array ZR)[3]?=ZV d:=rfl
@[go_sem] theorem ajF (a b c d e:ZR):(#[a,b,c,d,e]:Array ZR)[0]?=ZV a:=rfl
@[go_sem] theorem ajG (a b c d e:ZR):(#[a,b,c,d,e]:Array ZR)[1]?=ZV b:=rfl
@[go_sem] theorem ajH (a b c d e:ZR):(#[a,b,c,d,e]:Array ZR)[2]?=ZV c:=rfl
@[go_sem] theorem ajI (a b c d e:ZR):(#[a,b,c,d,e]:Array ZR)[3]?=ZV d:=rfl
@[go_sem] theorem ajJ (a b c d e:ZR):(#[a,b,c,d,e]:Array ZR)[4]?=ZV e:=rfl
@[go_sem] theorem ajK (a:ZR): [a][0]?=ZV a:=rfl
@[go_sem] theorem ajL (a b:ZR): [a,b][0]?=ZV a:=rfl
@[go_sem] theorem ajM (a b:ZR): [a,b][1]?=ZV b:=rfl
@[go_sem] theorem ajN (a b c:ZR): [a,b,c][0]?=ZV a:=rfl
@[go_sem] theorem ajO (a b c:ZR): [a,b,c][1]?=ZV b:=rfl
@[go_sem] theorem ajP (a b c:ZR): [a,b,c][2]?=ZV c:=rfl
@[go_sem] theorem ajQ (a b c d:ZR): [a,b,c,d][0]?=ZV a:=rfl
@[go_sem] theorem ajR (a b c d:ZR): [a,b,c,d][1]?=ZV b:=rfl
@[go_sem] theorem ajS (a b c d:ZR): [a,b,c,d][2]?=ZV c:=rfl
@[go_sem] theorem ajT (a b c d:ZR): [a,b,c,d][3]?=ZV d:=rfl
@[go_sem] theorem ajU (a b c d e:ZR): [a,b,c,d,e][0]?=ZV a:=rfl
@[go_sem] theorem ajV (a b c d e:ZR): [a,b,c,d,e][1]?=ZV b:=rfl
@[go_sem] theorem ajW (a b c d e:ZR): [a,b,c,d,e][2]?=ZV c:=rfl
@[go_sem] theorem ajX (a b c d e:ZR): [a,b,c,d,e][3]?=ZV d:=rfl
@[go_sem] theorem ajY (a b c d e:ZR): [a,b,c,d,e][4]?=ZV e:=rfl
@[go_sem] theorem ajZ (a b c d e f:ZR): [a,b,c,d,e,f][0]?=ZV a:=rfl
@[go_sem] theorem aj0 (a b c d e f:ZR): [a,b,c,d,e,f][1]?=ZV b:=rfl
@[go_sem] theorem aj1 (a b c d e f:ZR): [a,b,c,d,e,f][2]?=ZV c:=rfl
@[go_sem] theorem aj2 (a b c d e f:ZR): [a,b,c,d,e,f][3]?=ZV d:=rfl
@[go_sem] theorem aj3 (a b c d e f:ZR): [a,b,c,d,e,f][4]?=ZV e:=rfl
@[go_sem] theorem aj4 (a b c d e f:ZR): [a,b,c,d,e,f][5]?=ZV f:=rfl
@[go_sem] theorem aj5 (a b c d e f g:ZR): [a,b,c,d,e,f,g][0]?=ZV a:=rfl
@[go_sem] theorem aj6 (a b c d e f g:ZR): [a,b,c,d,e,f,g][1]?=ZV b:=rfl
@[go_sem] theorem aj7 (a b c d e f g:ZR): [a,b,c,d,e,f,g][2]?=ZV c:=rfl
@[go_sem] theorem aj8 (a b c d e f g:ZR): [a,b,c,d,e,f,g][3]?=ZV d:=rfl
@[go_sem] theorem aj9 (a b c d e f g:ZR): [a,b,c,d,e,f,g][4]?=ZV e:=rfl
@[go_sem] theorem aka (a b c d e f g:ZR): [a,b,c,d,e,f,g][5]?=ZV f:=rfl
@[go_sem] theorem akb (a b c d e f g:ZR): [a,b,c,d,e,f,g][6]?=ZV g:=rfl
def br (H:Hp) (v:ZR) (l:List ZR):Prop:=
 (v=Z6 ZU 0 0/\l=[])\/∃b c L,v=Z6 (ZV ⟨b,0,ZU⟩) l.length c/\l.length<=c/\c<=L.length/\Bl H b L/\L.take l.length=l
def ay:ZR->Nat->Prop
 |.slice (ZV p) _ _,k=>k=p.block
 |_,_=>False
def br.sl (h:br H v l):aP H v l:=by
 rcases h with⟨rfl,rfl⟩|⟨b,c,L,rfl,h1,h2,hb,h3⟩
 ·exact aP.nil _ _ _
 ·have:=aP.bl hb 0 l.length c h1 (by omega);rw[XB,h3]at this;exact this
def br.aV (h:br H v l) (hk:aV v k):ay v k:=by
 rcases h with⟨rfl,rfl⟩|⟨b,c,L,rfl,h1,h2,hb,h3⟩
 ·exact hk.elim
 ·exact hk.1
def br.bo (h:br H v l) (hk:ay v k):k<H.size:=by
 rcases h with⟨rfl,rfl⟩|⟨b,c,L,rfl,h1,h2,hb,h3⟩
 ·exact hk.elim
 ·cases hk;exact hb.lt
def br.ai (h:br H v l) (hk:af W H H') (hw:∀k,ay v k->¬W k):br H' v l:=by
 rcases h with h|⟨b,c,L,rfl,h1,h2,hb,h3⟩
 ·exact .inl h
 ·exact .inr ⟨b,c,L,rfl,h1,h2,hk.bl hb (hw b rfl),h3⟩
def br.nil (H:Hp):br H (Z6 ZU 0 0) []:=.inl ⟨rfl,rfl⟩
def br.new (h:Bl H b l) (hn:n=l.length) (hc:n=c):br H (Z6 (ZV ⟨b,0,ZU⟩) n c) l:=by
 subst hc;subst hn;exact .inr ⟨b,_,l,rfl,ZH _,ZH _,h,ZI⟩
def br.bl {L:List ZR} (h:Bl H b L) (hn:n=l.length) (h1:n<=c) (h2:c<=L.length) (h3:L.take n=l):br H (Z6 (ZV ⟨b,0,ZU⟩) n c) l:=by
 subst hn;exact .inr ⟨b,c,L,rfl,h1,h2,h,h3⟩
def Er (l m r:List ZR):List.take (l.length+m.length) (l++m++r)=l++m:=by
 rw[<-ZK];exact Yb rfl
def aaj {str:Bool} (hs:br H s l) (hx0:tM str x) (hxl:cP x=m.length) (hx:iV H x m.length=ZV m.toArray)
  (hm:bM m.toArray) (hz:z.size=1) (h1:l.length+m.length<=maxLen) (h2:(l.length+m.length)*bytes<=140737488355328)
  (hK:∀v' H',br H' v' (l++m)->af (ay s) H H'->(∀k,ay v' k->ay s k\/H.size<=k)->K v' H'):jn str T 1 bytes z s x H K:=by
 have hsl:=hs.sl;have hlen:=hsl.len;refine⟨⟨hsl.aq,hx0,by rw[hlen,hxl];exact h1,by rw[hlen,hxl];exact h2⟩,m.toArray,by rw[Zs,hxl];exact hx,?_⟩;rw[hlen,hxl,Zs];rcases hs with⟨rfl,rfl⟩|⟨b,c,L,rfl,g1,g2,hb,g3⟩
 ·refine⟨fun hle=>?_,fun _=>⟨#[],rfl,fun c hc=>?_⟩⟩
  ·have:m=[]:=by
    have:([]:List ZR).length+m.length<=0:=hle;apply YG;simpa using this
   subst this;exact⟨trivial,hK _ _ (br.nil _) (af.refl _ _) (fun k h=>.inl h)⟩
  ·have hB:=Bl.dh H (#[]++m.toArray++rep z ((c -(([]:List ZR).length+m.length))*z.size)) T;refine hK _ _ (br.bl hB (by simp) (by simpa using hc) ?_ ?_) ((af.refl _ _).push _) (fun k h=>.inr (WU h.symm))
   ·simp[rep,hz]at hc⊢;omega
   ·simp
 ·refine⟨fun hle=>?_,fun hlt=>⟨_,hsl.iV (ZH _),fun c' hc=>?_⟩⟩
  ·have hle:l.length+m.length<=c:=hle;refine⟨hb.lK _ _ _ hm (by simp;omega),?_⟩;have hB:=hb.put 0 l.length m.toArray;refine hK _ _ (br.bl hB (by simp) hle ?_ ?_) ((af.refl _ _).put rfl _ _ (.inl rfl)) (fun k h=>.inl h)
   ·rw[nu (by simp;omega)];exact g2
   ·unfold rE;rw[Zt,g3];exact Er _ _ _
  ·rw[ZI];have hB:=Bl.dh H (l.toArray++m.toArray++rep z ((c' -(l.length+m.length))*z.size)) T;refine hK _ _ (br.bl hB (by simp) hc ?_ ?_) ((af.refl _ _).push _) (fun k h=>.inr (WU h.symm))
   ·simp[rep,hz];omega
   ·rw[YI,YI];exact Er _ _ _
def iD (hs:br H s l) (hx:aP H x m)
  (hm:bM m.toArray) (hz:z.size=1) (h1:l.length+m.length<=maxLen) (h2:(l.length+m.length)*bytes<=140737488355328)
  (hK:∀v' H',br H' v' (l++m)->af (ay s) H H'->(∀k,ay v' k->ay s k\/H.size<=k)->K v' H'):jn ZS T 1 bytes z s x H K:=
 aaj hs hx.aq hx.cP (by have:=hx.iV (ZH m.length);rwa [ZI]at this) hm hz h1 h2 hK
def ny {l m:List UInt8} (hs:br H s (w8 l)) (hx:aP H x (w8 m))
  (hz:z.size=1) (h1:l.length+m.length<=1000000000)
  (hK:∀v' H',br H' v' (w8 (l++m))->af (ay s) H H'->(∀k,ay v' k->ay s k\/H.size<=k)->K v' H'):jn ZS T 1 1 z s x H K:=
 iD hs hx (aai _) hz (by rw[aM,aM];unfold maxLen;omega) (by rw[aM,aM];omega) (by rw[<-afl];exact hK)
end Go.Mg
namespace Go.Mg
variable {H H':Hp} {n:Nat}
def la {T:TypeId} {z:Array ZR} {s x:ZR} {K:ZR->Hp->Prop} {l m:List UInt8} (n:Nat) (hs:br H s (w8 l)) (hn:∀k,ay s k->n<=k) (hH:n<=H.size) (hx:aP H x (w8 m))
  (hz:z.size=1) (h1:l.length+m.length<=1000000000)
  (hK:∀v' H',br H' v' (w8 (l++m))->(∀k,ay v' k->n<=k)->af (fun k=>n<=k) H H'->K v' H'):jn ZS T 1 1 z s x H K:=
 ny hs hx hz h1 fun v' H' h1 h2 h3=>hK v' H' h1 (fun k hk=>by rcases h3 k hk with h|h;exact hn k h;omega) (h2.mono fun k _ hk=>hn k hk)
def af.gK {H0:Hp} (h:af (fun _=>False) H0 H) (k:af (fun k=>n<=k) H H') (hn:H0.size<=n):af (fun _=>False) H0 H':=
 h.trans' k (fun i hi e=>by omega)
def af.eX (h:af (fun _=>False) H H'):af (fun k=>n<=k) H H':=h.mono fun _ _ h=>h.elim
end Go.Mg
namespace Go.Mg
def br.some {H:Hp} {v:ZR} {l:List ZR} (h:br H v l) (hl:l≠[]):∃b c L,v=Z6 (ZV ⟨b,0,ZU⟩) l.length c/\l.length<=c/\c<=L.length/\Bl H b L/\L.take l.length=l/\∀i,i<l.length->L[i]?=l[i]?:=by
 rcases h with⟨_,rfl⟩|⟨b,c,L,h1,h2,h3,h4,h5⟩
 ·exact(hl rfl).elim
 ·refine⟨b,c,L,h1,h2,h3,h4,h5,fun i hi=>?_⟩
  conv=>rhs;rw[<-h5]
  rw[YZ,if_pos hi]
end Go.Mg
namespace Go.Mg
def ja {T:TypeId} {bytes:Nat} {z:Array ZR} {s x:ZR} {H:Hp} {K:ZR->Hp->Prop} {l m:List ZR} (n:Nat) (hs:br H s l) (hn:∀k,ay s k->n<=k) (hH:n<=H.size) (hx:aP H x m)
  (hm:bM m.toArray) (hz:z.size=1) (hb:bytes<=64) (h1:l.length+m.length<=1000000000)
  (hK:∀v' H',br H' v' (l++m)->(∀k,ay v' k->n<=k)->af (fun k=>n<=k) H H'->K v' H'):jn ZS T 1 bytes z s x H K:=
 iD hs hx hm hz (by unfold maxLen;omega) (Zp (WQ h1 hb) (by omega)) fun v' H' h1 h2 h3=>hK v' H' h1 (fun k hk=>by rcases h3 k hk with h|h;exact hn k h;omega) (h2.mono fun k _ hk=>hn k hk)
end Go.Mg
namespace Go.Mg
variable {H:Hp} {l:List ZR}
def aP.cells {v:ZR} (h:aP H v l) (hl:l≠[]):∃b o c,v=.slice (VL ⟨b,o,ZU⟩) l.length c/\l.length<=c/\∀i,i<l.length->Mg.cell H ⟨b,o+i,ZU⟩=l[i]?:=by
 rcases h with⟨_,_,_,rfl⟩|⟨b,o,c,_,h1,h2,C,T,z,h3,h4,h5⟩
 ·exact(hl rfl).elim
 ·refine⟨b,o,c,h1,h2,fun i hi=>?_⟩
  conv=>rhs;rw[<-h5]
  rw[YZ,if_pos hi,Xn];simp[Mg.cell,h3]
def aP.pV {b o n c:Nat} (h:aP H (.slice (VL ⟨b,o,ZU⟩) n c) l) {i:Nat} (hi:i<l.length):Mg.cell H ⟨b,o+i,ZU⟩=l[i]?:=by
 obtain⟨b',o',c',e,-,hc⟩:=h.cells (by intro e;rw[e]at hi;simp at hi)
 cases e
 exact hc i hi
def mj {α:Type} (p:Nat->α->Prop) (d:α):∀n,(∀i,i<n->∃x,p i x)->∃xs:List α,xs.length=n/\∀i,i<n->p i (xs.getD i d)
 |0,_=>⟨[],rfl,fun i h=>by omega⟩
 |n+1,h=>by
  obtain⟨xs,h1,h2⟩:=mj p d n (fun i hi=>h i (by omega));obtain⟨x,hx⟩:=h n (by omega);refine⟨xs++[x],by simp[h1],fun i hi=>?_⟩
  by_cases e:i<n
  ·rw[ZP,List.getElem?_append_left (by omega),<-ZP];exact h2 i e
  ·have:i=n:=by omega
   subst this;rw[ZP,List.getElem?_append_right (by omega),h1];simpa using hx
end Go.Mg
namespace Go.Mg
def rM {H:Hp} {b c:Nat} {L l:List ZR} (hB:Bl H b L) (h1:l.length<=c) (h2:c<=L.length) (h3:L.take l.length=l) (i:Nat) (v:ZR) (_:i<l.length):
  br (az H ⟨b,i,ZU⟩ v) (Z6 (ZV ⟨b,0,ZU⟩) l.length c) (l.set i v):=
 br.bl (hB.az i v) (by simp) h1 (by simpa using h2) (by rw[List.take_set,h3])
end Go.Mg
namespace Go.Mg
def br.shape {H:Hp} {v:ZR} {l:List ZR} (h:br H v l):∃a n c,v=.slice a n c:=by
 rcases h with⟨rfl,_⟩|⟨b,c,L,rfl,_⟩<;>exact⟨_,_,_,rfl⟩
end Go.Mg
namespace Go.Mg
def iL (l:List Int):List ZR:=l.map (Value.int ZY)
def aA (l:List Int):(iL l).length=l.length:=by simp[iL]
def dM (l:List Int) (i:Nat) (h:i<l.length):(iL l)[i]?=ZV (Z8 ZY (l.getD i 0)):=by simp[iL,h]
def PW (a b:List Int):iL (a++b)=iL a++iL b:=by simp[iL]
def mq (l:List Int) (i:Nat) (x:Int):(iL l).set i (Z8 ZY x)=iL (l.set i x):=by simp[iL,VG]
def gT (l:List Int):bM (iL l).toArray:=by
 intro x hx;simp[iL]at hx;obtain⟨y,_,rfl⟩:=hx;rfl
def rN (n:Nat) (x:Int):ZM n (Value.int ZY x)=iL (ZM n x):=by simp[iL]
section
variable {α:Type} {enc:α->List ZR} {k:Nat}
def vy (hk:∀x,(enc x).length=k) (l:List α):(l.flatMap enc).length=l.length*k:=by
 induction l with
 |nil=>simp
 |cons a l ih=>simp[ih,hk,Xq,Xc]
def Es (hk:∀x,(enc x).length=k) (l:List α) (i:Nat) (x:α) (h:l[i]?=ZV x):((l.flatMap enc).drop (i*k)).take k=enc x:=by
 induction l generalizing i with
 |nil=>simp at h
 |cons a l ih=>
  cases i with
  |zero=>
   simp at h;subst h;rw[Wv,XB,Zq];exact Yb (hk _)
  |succ i=>
   simp at h;rw[Zq,Xq,Xc,<-XN,VY (hk _)];exact ih i h
def zR (hk:∀x,(enc x).length=k) (l:List α) (i:Nat) (h:i<=l.length):(l.flatMap enc).take (i*k)=(l.take i).flatMap enc:=by
 induction l generalizing i with
 |nil=>simp
 |cons a l ih=>
  cases i with
  |zero=>simp
  |succ i=>
   rw[Zq,List.take_succ_cons,Zq,Xq,Xc,List.take_append,hk,Zy (by rw[hk];omega),Yv,ih i (by simpa using h)]
def aak (hk:∀x,(enc x).length=k) (l:List α) (i:Nat) (h:i<=l.length):(l.flatMap enc).drop (i*k)=(l.drop i).flatMap enc:=by
 induction l generalizing i with
 |nil=>simp
 |cons a l ih=>
  cases i with
  |zero=>simp
  |succ i=>
   rw[Zq,List.drop_succ_cons,Xq,Xc,<-XN,VY (hk _),ih i (by simpa using h)]
def aal (h1:∀x,∀v∈enc x,v.oneCell'=ZT) (l:List α):bM (l.flatMap enc).toArray:=by
 intro x hx;simp only[List.mem_flatMap]at hx;obtain⟨a,_,hx⟩:=hx;exact h1 a x hx
def bk (enc:α->List ZR) (k:Nat) (H:Hp) (v:ZR) (l:List α):Prop:=
 (∃a c,v=.slice a 0 c/\l=[])\/∃b o c,l≠[]/\v=Z6 (ZV ⟨b,o,ZU⟩) l.length c/\l.length<=c/\∃C T z,H[b]?=ZV (.cells C T z)/\o+l.length*k<=C.size/\(C.toList.drop o).take (l.length*k)=l.flatMap enc
def bk.nil (H:Hp) (a:Option Addr) (c:Nat):bk enc k H (.slice a 0 c) []:=.inl ⟨a,c,rfl,rfl⟩
def bk.at_ {H:Hp} {b o c:Nat} {l:List α} {C:Array ZR} {T:TypeId} {z:Nat×Nat} (hc:l.length<=c) (h:H[b]?=ZV (.cells C T z)) (h1:o+l.length*k<=C.size) (h2:(C.toList.drop o).take (l.length*k)=l.flatMap enc):
  bk enc k H (Z6 (ZV ⟨b,o,ZU⟩) l.length c) l:=by
 by_cases hl:l=[]
 ·subst hl;exact bk.nil _ _ _
 ·exact .inr ⟨b,o,c,hl,rfl,hc,C,T,z,h,h1,h2⟩
def bk.congr {H H':Hp} {v:ZR} {l:List α} (h:bk enc k H v l) (hk:∀q,aV v q->H'[q]?=H[q]?):bk enc k H' v l:=by
 rcases h with h|⟨b,o,c,hl,rfl,h0,C,T,z,h1,h2,h3⟩
 ·exact .inl h
 ·exact .inr ⟨b,o,c,hl,rfl,h0,C,T,z,by rw[hk b ⟨rfl,by simpa using hl⟩];exact h1,h2,h3⟩
def bk.bo {H:Hp} {v:ZR} {l:List α} (h:bk enc k H v l) {q:Nat} (hq:aV v q):q<H.size:=by
 rcases h with⟨a,c,rfl,_⟩|⟨b,o,c,_,rfl,h0,C,T,z,h1,h2,h3⟩
 ·cases a<;>simp[aV]at hq
 ·obtain⟨rfl,_⟩:=hq;exact(Array.getElem?_eq_some_iff.1 h1).1
def bk.ai {W:Nat->Prop} {H H':Hp} {v:ZR} {l:List α} (h:bk enc k H v l) (hk:af W H H') (hw:∀q,aV v q->¬W q):bk enc k H' v l:=
 h.congr fun q hb=>hk.at_ q (h.bo hb) (hw q hb)
def bk.aj {H H':Hp} {v:ZR} {l:List α} (h:bk enc k H v l) (hk:af (fun _=>False) H H'):bk enc k H' v l:=h.ai hk fun _ _ h=>h
def bk.aq {H:Hp} {v:ZR} {l:List α} (h:bk enc k H v l):Mg.aq v:=by
 rcases h with⟨a,c,rfl,_⟩|⟨b,o,c,_,rfl,_⟩<;>trivial
def bk.len {H:Hp} {v:ZR} {l:List α} (h:bk enc k H v l):aW v=l.length:=by
 rcases h with⟨a,c,rfl,rfl⟩|⟨b,o,c,_,rfl,_⟩<;>rfl
def bk.cP {H:Hp} {v:ZR} {l:List α} (h:bk enc k H v l):Mg.cP v=l.length:=by
 rcases h with⟨a,c,rfl,rfl⟩|⟨b,o,c,_,rfl,_⟩<;>rfl
def bk.mk {H:Hp} {v:ZR} {l:List α} (h:bk enc k H v l):∃a c,v=.slice a l.length c/\l.length<=c:=by
 rcases h with⟨a,c,rfl,rfl⟩|⟨b,o,c,_,rfl,h0,_⟩
 ·exact⟨a,c,rfl,Xf _⟩
 ·exact⟨_,c,rfl,h0⟩
def bk.iV {H:Hp} {v:ZR} {l:List α} (h:bk enc k H v l):Mg.iV H v (l.length*k)=ZV (l.flatMap enc).toArray:=by
 rcases h with⟨a,c,rfl,rfl⟩|⟨b,o,c,_,rfl,h0,C,T,z,h1,h2,h3⟩
 ·rw[Zx,Wv,Gd];rfl
 ·show(if l.length*k=0 then ZV #[]else Mg.aQ H ⟨b,o,ZU⟩ (l.length*k))=_
  split
  ·rename_i hk0;rw[<-h3,hk0];simp
  ·simp only[Mg.aQ,Ys,ZD,if_false,h1];rw[if_pos (by omega)]
   congr 1
   apply Xy;simp only[XE,YD,Yv];exact h3
def bk.bl {H:Hp} {b:Nat} {L:List ZR} (h:Bl H b L) {l:List α} (hl:L.take (l.length*k)=l.flatMap enc) (hL:l.length*k<=L.length) {c:Nat} (hc:l.length<=c):bk enc k H (Z6 (ZV ⟨b,0,ZU⟩) l.length c) l:=by
 obtain⟨T,h⟩:=h;exact bk.at_ hc h (by simpa using hL) (by simpa using hl)
def bk.elem {H:Hp} {v:ZR} {l:List α} (h:bk enc k H v l) (hk:∀x,(enc x).length=k) {i:Nat} (hi:i<l.length):∃b o c,v=Z6 (ZV ⟨b,o,ZU⟩) l.length c/\aV v b/\Mg.aQ H ⟨b,o+i*k,ZU⟩ k=ZV (enc l[i]).toArray:=by
 rcases h with⟨a,c,_,rfl⟩|⟨b,o,c,hl,rfl,h0,C,T,z,h1,h2,h3⟩
 ·simp at hi
 ·refine⟨b,o,c,rfl,⟨rfl,by simpa using hl⟩,?_⟩;have hle:i*k+k<=l.length*k:=by rw[<-Xq];exact YT k hi
  unfold Mg.aQ;simp only[h1,Ys,ZD,if_false];rw[if_pos (by omega)]
  congr 1
  apply Xy;simp only[XE,YD,Yv];rw[<-Es hk l i l[i] (ZO hi),<-h3,Xg,XO,XN,Yh (by omega)]
def bk.cell {H:Hp} {v:ZR} {l:List α} (h:bk enc k H v l) (hk:∀x,(enc x).length=k) {i:Nat} (hi:i<l.length) {j:Nat} (hj:j<k):∃b o c,v=Z6 (ZV ⟨b,o,ZU⟩) l.length c/\aV v b/\Mg.cell H ⟨b,o+i*k+j,ZU⟩=(enc l[i])[j]?:=by
 rcases h with⟨a,c,_,rfl⟩|⟨b,o,c,hl,rfl,h0,C,T,z,h1,h2,h3⟩
 ·simp at hi
 ·refine⟨b,o,c,rfl,⟨rfl,by simpa using hl⟩,?_⟩;have hle:i*k+k<=l.length*k:=by rw[<-Xq];exact YT k hi
  rw[<-Es hk l i l[i] (ZO hi),<-h3,Xg,XO,XN,Yh (by omega),YZ,if_pos hj,Xn];simp[Mg.cell,h1]
def cr (enc:α->List ZR) (k:Nat) (H:Hp) (v:ZR) (l:List α):Prop:=
 (v=Z6 ZU 0 0/\l=[])\/∃b c L,v=Z6 (ZV ⟨b,0,ZU⟩) l.length c/\l.length<=c/\c*k<=L.length/\Bl H b L/\L.take (l.length*k)=l.flatMap enc
def cr.sl {H:Hp} {v:ZR} {l:List α} (h:cr enc k H v l):bk enc k H v l:=by
 rcases h with⟨rfl,rfl⟩|⟨b,c,L,rfl,h1,h2,hb,h3⟩
 ·exact bk.nil _ _ _
 ·exact bk.bl hb h3 (Zp (YT k h1) h2) h1
def cr.aV {H:Hp} {v:ZR} {l:List α} (h:cr enc k H v l) {q:Nat} (hq:aV v q):ay v q:=by
 rcases h with⟨rfl,rfl⟩|⟨b,c,L,rfl,h1,h2,hb,h3⟩
 ·exact hq.elim
 ·exact hq.1
def cr.bo {H:Hp} {v:ZR} {l:List α} (h:cr enc k H v l) {q:Nat} (hq:ay v q):q<H.size:=by
 rcases h with⟨rfl,rfl⟩|⟨b,c,L,rfl,h1,h2,hb,h3⟩
 ·exact hq.elim
 ·cases hq;exact hb.lt
def cr.ai {W:Nat->Prop} {H H':Hp} {v:ZR} {l:List α} (h:cr enc k H v l) (hk:af W H H') (hw:∀q,ay v q->¬W q):cr enc k H' v l:=by
 rcases h with h|⟨b,c,L,rfl,h1,h2,hb,h3⟩
 ·exact .inl h
 ·exact .inr ⟨b,c,L,rfl,h1,h2,hk.bl hb (hw b rfl),h3⟩
def cr.nil (H:Hp):cr enc k H (Z6 ZU 0 0) []:=.inl ⟨rfl,rfl⟩
def cr.bl {H:Hp} {b n c:Nat} {l:List α} {L:List ZR} (h:Bl H b L) (hn:n=l.length) (h1:n<=c) (h2:c*k<=L.length) (h3:L.take (n*k)=l.flatMap enc):cr enc k H (Z6 (ZV ⟨b,0,ZU⟩) n c) l:=by
 subst hn;exact .inr ⟨b,c,L,rfl,h1,h2,h,h3⟩
def cr.shape {H:Hp} {v:ZR} {l:List α} (h:cr enc k H v l):∃a n c,v=.slice a n c:=by
 rcases h with⟨rfl,_⟩|⟨b,c,L,rfl,_⟩<;>exact⟨_,_,_,rfl⟩
def cr.some {H:Hp} {v:ZR} {l:List α} (h:cr enc k H v l) (hl:l≠[]):∃b c L,v=Z6 (ZV ⟨b,0,ZU⟩) l.length c/\l.length<=c/\c*k<=L.length/\Bl H b L/\L.take (l.length*k)=l.flatMap enc:=by
 rcases h with⟨_,rfl⟩|h
 ·exact(hl rfl).elim
 ·exact h
def afn {T:TypeId} {bytes:Nat} {z:Array ZR} {s x:ZR} {H:Hp} {K:ZR->Hp->Prop} {l m:List α} (hk:∀x,(enc x).length=k) (h1c:∀x,∀v∈enc x,v.oneCell'=ZT) (hs:cr enc k H s l) (hx:bk enc k H x m)
  (hz:z.size=k) (h1:l.length+m.length<=maxLen) (h2:(l.length+m.length)*bytes<=140737488355328)
  (hK:∀v' H',cr enc k H' v' (l++m)->af (ay s) H H'->(∀q,ay v' q->ay s q\/H.size<=q)->bk enc k H' s l->K v' H'):jn ZS T k bytes z s x H K:=by
 have hsl:=hs.sl;have hlen:=hsl.len;have hxl:=hx.cP;have fm:=vy hk m;have fl:=vy hk l;have ahy:(l.flatMap enc++m.flatMap enc).length=(l.length+m.length)*k:=by rw[ZK,fm,fl,Yi]
 refine⟨⟨hsl.aq,hx.aq,by rw[hlen,hxl];exact h1,by rw[hlen,hxl];exact h2⟩,(m.flatMap enc).toArray,by rw[hxl];exact hx.iV,?_⟩;rw[hlen,hxl];rcases hs with⟨rfl,rfl⟩|⟨b,c,L,rfl,g1,g2,hb,g3⟩
 ·refine⟨fun hle=>?_,fun _=>⟨#[],by rw[Zx,Wv,Gd],fun c hc=>?_⟩⟩
  ·have:m=[]:=by
    have:([]:List α).length+m.length<=0:=hle;apply YG;simpa using this
   subst this;exact⟨trivial,hK _ _ (cr.nil _) (af.refl _ _) (fun k h=>.inl h) (bk.nil _ _ _)⟩
  ·have hB:=Bl.dh H (#[]++(m.flatMap enc).toArray++rep z ((c -(([]:List α).length+m.length))*z.size)) T;refine hK _ _ (cr.bl hB (by simp) (by simpa using hc) ?_ ?_) ((af.refl _ _).push _) (fun k h=>.inr (WU h.symm)) (bk.nil _ _ _)
   ·simp only[Zx,Zt]at hc⊢;simp only[rep,hz,YI,ZK,fm,YM,XF,W5,Wa,Zx,Zt];rw[<-Yi,V7 hc];exact ZH _
   ·simp only[Zx,Zt,XG,YI];exact Yb (by simpa using fm)
 ·refine⟨fun hle=>?_,fun hlt=>⟨_,hsl.iV,fun c' hc=>?_⟩⟩
  ·have hle:l.length+m.length<=c:=hle;have PY:(l.length+m.length)*k<=c*k:=YT k hle;rw[Yi]at PY;refine⟨hb.lK _ _ _ (aal h1c m) (by simp only[WZ,fm,Zt];omega),?_⟩;have hB:=hb.put 0 (l.length*k) (m.flatMap enc).toArray;refine hK _ _ (cr.bl hB (by simp) hle ?_ ?_) ((af.refl _ _).put rfl _ _ (.inl rfl)) (fun k h=>.inl h) (bk.bl hB ?_ ?_ g1)
   ·rw[nu (by simp only[Zt,fm];omega)];exact g2
   ·unfold rE;rw[Zt,g3,Yo];exact Yb ahy
   ·unfold rE;rw[Zt,g3,List.append_assoc];exact Yb fl
   ·rw[nu (by simp only[Zt,fm];omega)];exact Zp (YT k g1) g2
  ·have hB:=Bl.dh H ((l.flatMap enc).toArray++(m.flatMap enc).toArray++rep z ((c' -(l.length+m.length))*z.size)) T;refine hK _ _ (cr.bl hB (by simp) hc ?_ ?_) ((af.refl _ _).push _) (fun k h=>.inr (WU h.symm)) (hsl.aj ((af.refl _ _).push _))
   ·simp only[rep,hz,YI,ZK,fm,fl,YM,XF,W5,Wa];rw[<-Yi,<-Yi,V7 hc];exact ZH _
   ·rw[YI,YI,Yo];exact Yb ahy
def Ll {T:TypeId} {bytes:Nat} {z:Array ZR} {s x:ZR} {H:Hp} {K:ZR->Hp->Prop} {l m:List α} (hk:∀x,(enc x).length=k) (h1c:∀x,∀v∈enc x,v.oneCell'=ZT) (hs:cr enc k H s l) (hx:bk enc k H x m)
  (hz:z.size=k) (h1:l.length+m.length<=maxLen) (h2:(l.length+m.length)*bytes<=140737488355328)
  (hK:∀v' H',cr enc k H' v' (l++m)->af (ay s) H H'->(∀q,ay v' q->ay s q\/H.size<=q)->K v' H'):jn ZS T k bytes z s x H K:=
 afn hk h1c hs hx hz h1 h2 fun v' H' a b c _=>hK v' H' a b c
def rO {T:TypeId} {bytes:Nat} {z:Array ZR} {s x:ZR} {H:Hp} {K:ZR->Hp->Prop} {l m:List α} (n:Nat) (hk:∀x,(enc x).length=k) (h1c:∀x,∀v∈enc x,v.oneCell'=ZT) (hs:cr enc k H s l) (hn:∀q,ay s q->n<=q) (hH:n<=H.size) (hx:bk enc k H x m)
  (hz:z.size=k) (hb:bytes<=64) (h1:l.length+m.length<=1000000000)
  (hK:∀v' H',cr enc k H' v' (l++m)->(∀q,ay v' q->n<=q)->af (fun q=>n<=q) H H'->K v' H'):jn ZS T k bytes z s x H K:=
 Ll hk h1c hs hx hz (by unfold maxLen;omega) (Zp (WQ h1 hb) (by omega)) fun v' H' h1 h2 h3=>hK v' H' h1 (fun q hq=>by rcases h3 q hq with h|h;exact hn q h;omega) (h2.mono fun q _ hq=>hn q hq)
end
def pE (p:Int×Int):List ZR:=[Z8 ZY p.1,Z8 ZY p.2]
def dy (p:Int×Int):(pE p).length=2:=rfl
def iE (p:Int×Int):∀v∈pE p,v.oneCell'=ZT:=by
 intro v hv;simp[pE]at hv;rcases hv with rfl|rfl<;>rfl
abbrev rP:=bk pE 2
abbrev FZ:=cr pE 2
end Go.Mg
