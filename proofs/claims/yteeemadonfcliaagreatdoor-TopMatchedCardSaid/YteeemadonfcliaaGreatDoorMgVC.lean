/- Lemmas of ours. No conditions. -/
import Derived.Test.YteeemadonfcliaaGreatDoorMgV9
set_option linter.all false
set_option maxRecDepth 100000
namespace Go.Mg
open Go Go.RowKit
theorem fz {A:Hp} {sv:Value} {st:List Int} (hs:aG A sv (iL st)) {a:Int} (h0:0<=a) (h1:a<st.length):∃b o c,sv=.slice (some ⟨b,o,none⟩) st.length c/\cell A ⟨b,o+a.toNat,none⟩=some (.int .i64 (sI st a)):=by
 obtain⟨b,o,c,hve,hc,hcell⟩:=hs.cells (by intro e;have:=ak st;rw[e]at this;simp at this;omega);rw[ak]at hve hcell;exact⟨b,o,c,hve,by rw[hcell _ (by omega),bW _ _ (by omega)];rfl⟩
end Go.Mg
namespace Go.Mg
open Go Go.RowKit
def xR (s:List Int) (m:UInt64) (k:Nat) (u:Int):Nat:=(((aD (bt m)).take k).filter fun x=>decide (s.getD x 0=u)).length
theorem ML (s:List Int) (m:UInt64) (u:Int):xR s m 0 u=0:=rfl
variable {s:List Int} {m:UInt64} {k i:Nat} {K:Int}
theorem pJ (hk:k<(aD (bt m)).length) (u:Int):xR s m (k+1) u=xR s m k u+if s.getD (aD (bt m))[k] 0=u then 1 else 0:=by
 unfold xR;rw[List.take_succ_eq_append_getElem hk,List.filter_append,List.length_append]
 congr 1
 simp only[List.filter_cons,List.filter_nil,decide_eq_true_eq]
 split<;>simp
theorem xd {s : List Int} {m : UInt64} {u : Int} {a : Nat} : ∀ {b : Nat}, a <= b -> xR s m a u <= xR s m b u
  | 0, h => by have : a = 0 := by omega
               subst this; exact Nat.le_refl _
  | b + 1, h => by
    by_cases e : a = b + 1
    · rw [e]; exact Nat.le_refl _
    · refine Nat.le_trans (xd (show a <= b by omega)) ?_
      by_cases hb : b < (aD (bt m)).length
      · rw [pJ hb]; omega
      · unfold xR;rw [List.take_of_length_le (show (aD (bt m)).length <= b + 1 by omega), List.take_of_length_le (show (aD (bt m)).length <= b by omega)];exact Nat.le_refl _
theorem Pk (s:List Int) (m:UInt64) (k:Nat) (u:Int):xR s m k u<=4096:=by
 unfold xR;refine Nat.le_trans (List.length_filter_le _ _) ?_;rw[List.length_take];have:=dw 4096 (bt m);have:=bR (bt m);omega
theorem BL (hs:s.length<=10) (hm:m.toNat<2^s.length) (u:Int):xR s m (aD (bt m)).length u=Q4 s m u s.length:=by
 unfold xR Q4 aD;rw[List.take_length,List.filter_filter,cH];rw[iS (a:=s.length) (b:=4096) (by omega)]
 ·exact aZ fun i _=>Bool.and_comm _ _
 ·intro i h1 h2;have:bt m i=false:=by
   cases hb:bt m i with
   |false=>rfl
   |true=>
    have:=(jo (n:=s.length) (by omega)).2 hm i hb;simp at this;omega
  rw[this,Bool.and_false]
theorem Gd (hs:s.length<=10) (hm:m.toNat<2^s.length) (hi:i<s.length) (h0:s.getD i 0≠0) (h:K<(xR s m k (s.getD i 0):Int)):mC s (K,m)=true:=by
 unfold mC;refine List.any_eq_true.2 ⟨s.getD i 0,?_,?_⟩
 ·rw[List.getD_eq_getElem?_getD,List.getElem?_eq_getElem hi];exact List.getElem_mem _
 ·simp only[Bool.and_eq_true,decide_eq_true_eq];refine⟨h0,?_⟩;have h1:xR s m k (s.getD i 0)<=Q4 s m (s.getD i 0) s.length:=by
   rw[<-BL hs hm]
   by_cases hk:k<=(aD (bt m)).length
   ·exact xd hk
   ·unfold xR;rw[List.take_of_length_le (show(aD (bt m)).length<=k by omega),List.take_length];exact Nat.le_refl _
  omega
theorem Dq (hs:s.length<=10) (hm:m.toNat<2^s.length) (hr:∀u∈s,0<=u/\u<=256) (h:∀u:Int,0<=u->u<=256->u≠0->(xR s m (aD (bt m)).length u:Int)<=K):mC s (K,m)=false:=by
 unfold mC;refine List.any_eq_false.2 fun u hu=>?_;simp only[Bool.and_eq_true,decide_eq_true_eq,not_and,Int.not_lt];intro h0;have:=h u (hr u hu).1 (hr u hu).2 h0
 rwa [BL hs hm]at this
theorem uj {α:Type} {p:α->Bool} {l:List α} (hi:i<l.length) (h:p l[i]=false) (hp:∀j,(hj:j<l.length)->j<i->p l[j]=false):∀j,(hj:j<l.length)->j<i+1->p l[j]=false:=fun j hj hlt=>by
 by_cases e:j=i
 ·subst e;exact h
 ·exact hp j hj (by omega)
end Go.Mg
namespace Go.Mg
open Go Go.RowKit
end Go.Mg
