/- Lemmas of ours. No conditions. -/
import Derived.WalkKit
namespace Go.Mg
open Go Go.RowKit
def iter {α:Type}:Nat->(α->Nat->α)->α->α
 |0,_,s=>s
 |n+1,f,s=>f (iter n f s) n
def rotl (x:UInt64) (n:Nat):UInt64:=UInt64.ofNat ((x.toNat*2^n) % 18446744073709551616|||x.toNat/2^(64 -n))
def bx:List Nat:=[0,1,62,28,27,36,44,6,55,20,3,10,43,25,39,41,45,15,21,8,18,2,61,56,14]
def bm:List UInt64:=[0x0000000000000001,0x0000000000008082,0x800000000000808a,0x8000000080008000,0x000000000000808b,0x0000000080000001,0x8000000080008081,0x8000000000008009,0x000000000000008a,0x0000000000000088,0x0000000080008009,0x000000008000000a,0x000000008000808b,0x800000000000008b,0x8000000000008089,0x8000000000008003,0x8000000000008002,0x8000000000000080,0x000000000000800a,0x800000008000000a,0x8000000080008081,0x8000000000008080,0x0000000080000001,0x8000000080008008]
def o3 (st:List UInt64) (k:Nat):UInt64:=st.getD k 0^^^st.getD (k+5) 0^^^st.getD (k+10) 0^^^st.getD (k+15) 0^^^st.getD (k+20) 0
def cN (st:List UInt64) (k:Nat):List UInt64:=iter k (fun c x=>c.set x (o3 st x)) (List.replicate 5 0)
def vj (c:List UInt64) (x:Nat):UInt64:=c.getD ((x+4) % 5) 0^^^rotl (c.getD ((x+1) % 5) 0) 1
def bY (st:List UInt64) (c:List UInt64) (x:Nat) (y:Nat) (b:List UInt64):List UInt64:=
 iter y (fun b y=>b.set (y+5*((2*x+3*y) % 5)) (rotl (st.getD (x+5*y) 0^^^vj c x) (bx.getD (x+5*y) 0))) b
def bX (st:List UInt64) (c:List UInt64) (x:Nat):List UInt64:=iter x (fun b x=>bY st c x 5 b) (List.replicate 25 0)
def ky (b:List UInt64) (y:Nat) (x:Nat) (st:List UInt64):List UInt64:=
 iter x (fun st x=>st.set (x+y) (b.getD (x+y) 0^^^(~~~b.getD ((x+1) % 5+y) 0&&&b.getD ((x+2) % 5+y) 0))) st
def dV (b:List UInt64) (y:Nat) (st:List UInt64):List UInt64:=iter y (fun st y=>ky b (5*y) 5 st) st
def iota (c:UInt64) (st:List UInt64):List UInt64:=st.set 0 (st.getD 0 0^^^c)
def ja (st:List UInt64) (c:UInt64):List UInt64:=iota c (dV (bX st (cN st 5) 5) 5 st)
def cC (k:Nat) (st:List UInt64):List UInt64:=iter k (fun st k=>ja st (bm.getD k 0)) st
def gy (st:List UInt64):List UInt64:=cC 24 st
theorem aM {α:Type} {f:List α->Nat->List α} (hf:∀l k,(f l k).length=l.length):∀n s,(iter n f s).length=s.length
 |0,_=>rfl
 |n+1,s=>by simp only[iter];rw[hf,aM hf n s]
theorem jb (st:List UInt64) (k:Nat):(cN st k).length=5:=by
 unfold cN;rw[aM (by simp)];simp
theorem mc (st c:List UInt64) (x y:Nat) (b:List UInt64):(bY st c x y b).length=b.length:=by
 unfold bY;rw[aM (by simp)]
theorem me (st c:List UInt64) (x:Nat):(bX st c x).length=25:=by
 unfold bX;rw[aM (fun l k=>mc _ _ _ _ _)];simp
theorem iE (b:List UInt64) (y x:Nat) (st:List UInt64):(ky b y x st).length=st.length:=by
 unfold ky;rw[aM (by simp)]
theorem eN (b:List UInt64) (y:Nat) (st:List UInt64):(dV b y st).length=st.length:=by
 unfold dV;rw[aM (fun l k=>iE _ _ _ _)]
theorem jc (st:List UInt64) (c:UInt64):(ja st c).length=st.length:=by
 simp[ja,iota,eN]
theorem dQ (k:Nat) (st:List UInt64):(cC k st).length=st.length:=by
 unfold cC;rw[aM (fun l k=>jc _ _)]
theorem iF (st:List UInt64):(gy st).length=st.length:=dQ _ _
theorem bitsOf (x:UInt64):(BitVec.ofInt 64 (x.toNat:Int))=x.toBitVec:=by
 apply BitVec.eq_of_toNat_eq;simp
theorem dZ (x:UInt64):IntKind.u64.wrap (x.toNat:Int)=x.toNat:=by
 have:=x.toNat_lt;rw[IntKind.wrap_u64];omega
theorem a8 (x y:UInt64):bits .xor .u64 (x.toNat:Int) (y.toNat:Int)=((x^^^y).toNat:Int):=by
 show IntKind.u64.wrap ((BitVec.ofInt 64 (x.toNat:Int)^^^BitVec.ofInt 64 (y.toNat:Int)).toNat:Int)=_
 rw[bitsOf,bitsOf];exact dZ (x^^^y)
theorem iG (x y:UInt64):bits .and .u64 (x.toNat:Int) (y.toNat:Int)=((x&&&y).toNat:Int):=by
 show IntKind.u64.wrap ((BitVec.ofInt 64 (x.toNat:Int)&&&BitVec.ofInt 64 (y.toNat:Int)).toNat:Int)=_
 rw[bitsOf,bitsOf];exact dZ (x&&&y)
theorem gz (x y:UInt64):bits .or .u64 (x.toNat:Int) (y.toNat:Int)=((x|||y).toNat:Int):=by
 show IntKind.u64.wrap ((BitVec.ofInt 64 (x.toNat:Int)|||BitVec.ofInt 64 (y.toNat:Int)).toNat:Int)=_
 rw[bitsOf,bitsOf];exact dZ (x|||y)
theorem mf (x:UInt64):bits .xor .u64 IntKind.u64.max (x.toNat:Int)=((~~~x).toNat:Int):=by
 show IntKind.u64.wrap ((BitVec.ofInt 64 IntKind.u64.max^^^BitVec.ofInt 64 (x.toNat:Int)).toNat:Int)=_
 rw[bitsOf];have:BitVec.ofInt 64 IntKind.u64.max=BitVec.allOnes 64:=by decide
 rw[this,BitVec.allOnes_xor];exact dZ (~~~x)
theorem kz (x:UInt64) (n:Nat) (_:n<=63):bits .or .u64 (IntKind.u64.wrap ((x.toNat:Int)*2^n)) ((x.toNat:Int)/2^(64 -n))=((rotl x n).toNat:Int):=by
 have h1:IntKind.u64.wrap ((x.toNat:Int)*2^n)=((UInt64.ofNat ((x.toNat*2^n) % 18446744073709551616)).toNat:Int):=by
  rw[IntKind.wrap_u64];have:(UInt64.ofNat ((x.toNat*2^n) % 18446744073709551616)).toNat=(x.toNat*2^n) % 18446744073709551616:=by
   rw[UInt64.toNat_ofNat'];exact Nat.mod_mod _ _
  rw[this];simp
 have hlt:x.toNat/2^(64 -n)<18446744073709551616:=Nat.lt_of_le_of_lt (Nat.div_le_self _ _) x.toNat_lt;have h2:((x.toNat:Int)/2^(64 -n))=((UInt64.ofNat (x.toNat/2^(64 -n))).toNat:Int):=by
  have:(UInt64.ofNat (x.toNat/2^(64 -n))).toNat=x.toNat/2^(64 -n):=by
   rw[UInt64.toNat_ofNat'];exact Nat.mod_eq_of_lt hlt
  rw[this];simp
 rw[h1,h2,gz]
 congr 1
 apply congrArg UInt64.toNat;unfold rotl;apply UInt64.toNat_inj.1;rw[UInt64.toNat_or,UInt64.toNat_ofNat',UInt64.toNat_ofNat',UInt64.toNat_ofNat'];have ha:(x.toNat*2^n) % 18446744073709551616<2^64:=Nat.mod_lt _ (by decide);rw[Nat.mod_eq_of_lt ha,Nat.mod_eq_of_lt (show x.toNat/2^(64 -n)<2^64 from hlt),Nat.mod_eq_of_lt (Nat.or_lt_two_pow ha hlt)]
def bn (l:List UInt64):List Value:=l.map fun x=>.int .u64 x.toNat
theorem aQ (l:List UInt64):(bn l).length=l.length:=by simp[bn]
theorem bJ (l:List UInt64) (rest:List Value) (i:Nat) (h:i<l.length):(bn l++rest)[i]?=some (.int .u64 (l.getD i 0).toNat):=by
 have:i<(bn l).length:=by simpa[bn]using h
 rw[List.getElem?_append_left this];simp[bn,h]
theorem cD (l:List UInt64) (i:Nat) (h:i<l.length):(bn l)[i]?=some (.int .u64 (l.getD i 0).toNat):=by
 simpa using bJ l [] i h
theorem c8 (l:List UInt64) (rest:List Value) (i:Nat) (h:i<l.length) (x:UInt64):(bn l++rest).set i (.int .u64 x.toNat)=bn (l.set i x)++rest:=by
 have:i<(bn l).length:=by simpa[bn]using h
 rw[List.set_append_left _ _ this];simp[bn,List.map_set]
theorem j0 (l:List UInt64) (i:Nat) (h:i<l.length) (x:UInt64):(bn l).set i (.int .u64 x.toNat)=bn (l.set i x):=by
 simpa using c8 l [] i h x
end Go.Mg
