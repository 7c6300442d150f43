/- Several texts of ours in one. No conditions. -/
import Derived.Test.YtoclemmcphgikaaGreatDoorMgE4
import Derived.Test.YtoclemmcphgikaaGreatDoorMgVC
namespace Go.Mg
open Go Go.RowKit
set_option linter.all false
set_option maxRecDepth 100000
structure LsR (H:Hp) (vs:List Value) (ls:List (List Int)):Prop where
 len:vs.length=ls.length
 at_:∀i (h:i<vs.length) (h':i<ls.length),SlR H vs[i] (iL ls[i])
variable {H H':Hp} {vs:List Value} {ls:List (List Int)} {C:Nat}
theorem LsR.keep {W:Nat->Prop} (h:LsR H vs ls) (hk:Keep W H H') (hw:∀x∈vs,∀q,slB x q->¬W q):LsR H' vs ls:=
 ⟨h.len,fun i h1 h2=>(h.at_ i h1 h2).keep hk fun q hq=>hw _ (List.getElem_mem h1) q hq⟩
theorem LsR.keep0 (h:LsR H vs ls) (hk:Keep (fun _=>False) H H'):LsR H' vs ls:=h.keep hk fun _ _ _ _ h=>h
theorem LsR.snoc (h:LsR H vs ls) {x:Value} {y:List Int} (h2:SlR H x (iL y)):LsR H (vs++[x]) (ls++[y]):=by
 refine⟨by simp[h.len],fun i hi hi'=>?_⟩
 by_cases e:i<vs.length
 ·rw[List.getElem_append_left e,List.getElem_append_left (by rw[<-h.len];exact e)];exact h.at_ i e (by rw[<-h.len];exact e)
 ·have hi2:i=vs.length:=by simp at hi;omega
  subst hi2
  have e1:(vs++[x])[vs.length]=x:=by simp
  have e2:(ls++[y])[vs.length]'hi'=y:=by
   have:=h.len
   simp[this]
  rw[e1,e2];exact h2
def LsO (C:Nat) (H:Hp) (v:Value) (ls:List (List Int)):Prop:=∃vs,OwS H v vs/\LsR H vs ls/\(∀q,ownB v q->C<=q)/\∀x∈vs,∀q,slB x q->¬ownB v q
theorem LsO.keep0 {v:Value} (h:LsO C H v ls) (hk:Keep (fun _=>False) H H'):LsO C H' v ls:=by
 obtain⟨vs,h1,h2,h3⟩:=h
 exact⟨vs,h1.keep hk (by simp),h2.keep0 hk,h3⟩
theorem LsO.nil (C:Nat) (H:Hp):LsO C H (.slice none 0 0) []:=⟨[],OwS.nil _,⟨rfl,fun i h=>by simp at h⟩,fun q h=>h.elim,fun x h=>by simp at h⟩
theorem LsO.app {bb:Nat} {A A2:Hp} {ov sv:Value} {s:List Int} (h:LsO C A ov ls) (hC:C<=A.size) (hs:SlR A sv (iL s)) (hn:∀q,slB sv q->¬ownB ov q) (hl:ls.length<=1000000) (BB:Bl A2 bb [sv]) (KB:Keep (fun _=>False) A A2)
  {T:TypeId} {K:Value->Hp->Prop} (hK:∀v' A',LsO C A' v' (ls++[s])->Keep (ownB ov) A2 A'->(∀q,ownB v' q->ownB ov q\/A2.size<=q)->K v' A'):AppC false T 1 24 #[.slice none 0 0] ov (.slice (some ⟨bb,0,none⟩) 1 1) A2 K:=by
 obtain⟨vs,OA,RA,oA,rA⟩:=h
 have sA:=KB.size
 have h1:all1 #[sv]:=all1_of (by simp only[List.all_cons,List.all_nil,all1_sl hs.isSl];rfl)
 have hv:=RA.len
 refine app_sl (OA.keep KB (by simp)) (SlR.bl BB 0 1 1 (by omega) (by simp)) h1 rfl (by unfold maxLen;simp;omega) (by simp;omega) fun v' A3 O3 K3 o3=>?_
 have hown:∀q,ownB ov q->q<A.size:=fun q hq=>OA.old hq
 have hvs:∀z∈vs,∀q,slB z q->q<A.size:=fun z hz q hq=>by
  obtain⟨j,hj,rfl⟩:=List.getElem_of_mem hz
  exact(RA.at_ j hj (by rw[<-RA.len];exact hj)).old hq
 refine hK v' A3 ⟨vs++[sv],O3,((RA.keep0 KB).keep K3 fun z hz q hq=>rA z hz q hq).snoc ((hs.keep KB (by simp)).keep K3 fun q hq=>hn q hq),fun q hq=>?_,fun z hz q hq=>?_⟩ K3 o3
 ·rcases o3 q hq with h|h
  ·exact oA q h
  ·omega
 ·rcases List.mem_append.1 hz with hz|hz
  ·intro h
   rcases o3 q h with h|h
   ·exact rA z hz q hq h
   ·have:=hvs z hz q hq;omega
  ·simp only[List.mem_singleton]at hz
   subst hz
   intro h
   rcases o3 q h with h|h
   ·exact hn q hq h
   ·have:=hs.old hq;omega
end Go.Mg
namespace Go.Mg
open Go Go.RowKit
set_option linter.all false
set_option maxRecDepth 100000
def RefRun (H:Hp) (v:Value) (F:FlN) (ms:List UInt64) (st:List Int):Prop:=∃s b d a m ev sv,v=.agg #[s,b,d,a,m,ev,sv]/\RefFl H (.agg #[s,b,d,a,m]) F/\SlR H ev (w64 ms)/\SlR H sv (iL st)
variable {H:Hp} {v s b d a m:Value} {F:FlN}
theorem RefRun.keep0 {H':Hp} {ms:List UInt64} {st:List Int} (h:RefRun H v F ms st) (hk:Keep (fun _=>False) H H'):RefRun H' v F ms st:=by
 obtain⟨s,b,d,a,m,ev,sv,rfl,h1,h2,h3⟩:=h
 exact⟨s,b,d,a,m,ev,sv,rfl,h1.keep0 hk,h2.keep hk (by simp),h3.keep hk (by simp)⟩
theorem RefFl.sl5 (h:RefFl H (.agg #[s,b,d,a,m]) F):isSl s/\isSl b/\isSl d/\isSl a/\isSl m:=by
 obtain⟨s',b',d',a',m',e,h1,h2,h3,h4,h5⟩:=h
 cases e
 exact⟨h1.isSl,h2.isSl,h3.isSl,h4.isSl,h5.isSl⟩
theorem sl7 {e:Value} (h:isSl s/\isSl b/\isSl d/\isSl a/\isSl m) (he:isSl e) (hv:isSl v):([s,b,d,a,m,e,v].all fun v=>v.oneCell')=true:=by
 obtain⟨h1,h2,h3,h4,h5⟩:=h
 simp only[List.all_cons,List.all_nil,Bool.and_true,Bool.and_eq_true]
 exact⟨all1_sl h1,all1_sl h2,all1_sl h3,all1_sl h4,all1_sl h5,all1_sl he,all1_sl hv⟩
end Go.Mg
namespace Go.Mg
open Go Go.RowKit
set_option linter.all false
set_option maxRecDepth 100000
end Go.Mg
