/- Several texts of ours in one. No conditions. -/
import Derived.Test.YtoclemmcphgikaaGreatDoorMgGT
import Derived.Test.YtoclemmcphgikaaGreatDoorMgGI
open Nat renaming reduceEqDiff→Za,reduceAdd→Zb
namespace Go.Mg
open Go Go.RowKit
set_option linter.all false
set_option maxRecDepth 100000
def EUsrXSpec (P:Program) (k:FuncId):Prop:=(∀(F:FlN) (el:List (Nat->Bool)) (st:List Int) (rb step:Nat) (H:Hp),RunV H rb F el st->st.length<=step->step<=1000->CallsM P k #[.pointer (some ⟨rb,0,none⟩),.int .i64 (step:Int)] H fun r H'=>r=.slice none 0 0/\Keep (fun _=>False) H H')∧
 ∀(step:Int) H,CallsM P k #[.pointer none,.int .i64 step] H fun r H'=>r=.slice none 0 0/\Keep (fun _=>False) H H'
theorem eusrX_ok {P:Program} {ι:Ids} {k:FuncId} (hk:FnIsR P k (c_eusr ι) r_eusr 2 41):EUsrXSpec P k:=by
 refine⟨fun F el st rb step H hR hl hl2=>?_,fun step H=>?_⟩
 ·obtain⟨s,b,d,a,m,ev,sv,vs,B,hF,he,hel,hfl,hes,hsv⟩:=hR
  have lsv:lenV sv=st.length:=by rw[hsv.len,iL_len]
  refine calls_of_vcR hk (args:=[_,_]) (by simp) ?_
  unfold c_eusr r_eusr kB kF kC kD kI kN kR kT kU kV kY kZ
  simp only[go_sem,Za,Zb]
  refine kont_new fun H1 b2 e1 z1 B1 K1=>?_
  have B1':Bl H1 b2 [.pointer (some ⟨rb,0,none⟩)]:=B1
  simp only[go_sem,Za,Zb]
  refine kont_new fun H2 b3 e2 z2 B2 K2=>?_
  have B2':Bl H2 b3 [.int .i64 (step:Int)]:=B2
  have B12:=K2.bl B1' (by simp)
  have K02:=K1.trans K2
  have BR:=K02.bl B (by simp)
  have c2:cell H2 ⟨b2,0,none⟩=some (.pointer (some ⟨rb,0,none⟩)):=by rw[B12.cell];rfl
  have c3:cell H2 ⟨b3,0,none⟩=some (.int .i64 (step:Int)):=by rw[B2'.cell];rfl
  have c6:cell H2 ⟨rb,6,none⟩=some sv:=by rw[BR.cell];rfl
  have d1:decide ((step:Int)<0)=false:=decide_eq_false (by omega)
  have d2:decide ((step:Int)≥(st.length:Int))=true:=decide_eq_true (by omega)
  simp only[go_sem,Za,Zb,c2,c3,c6,d1,d2,hsv.isSl,lsv]
  exact⟨List.nodup_nil,fun H' hs hk=>⟨by have:=K02.size;omega,fun q hq hn=>by rw[hk];exact K02.at_ q hq hn⟩⟩
 ·refine calls_of_vcR hk (args:=[_,_]) (by simp) ?_
  unfold c_eusr r_eusr kB kF kC kD kI kN kR kT kU kV kY kZ
  simp only[go_sem,Za,Zb]
  refine kont_new fun H1 b2 e1 z1 B1 K1=>?_
  have B1':Bl H1 b2 [.pointer none]:=B1
  simp only[go_sem,Za,Zb]
  refine kont_new fun H2 b3 e2 z2 B2 K2=>?_
  have B12:=K2.bl B1' (by simp)
  have c2:cell H2 ⟨b2,0,none⟩=some (.pointer none):=by rw[B12.cell];rfl
  simp only[go_sem,Za,Zb,c2]
  have K02:=K1.trans K2
  exact⟨List.nodup_nil,fun H' hs hk=>⟨by have:=K02.size;omega,fun q hq hn=>by rw[hk];exact K02.at_ q hq hn⟩⟩
end Go.Mg
namespace Go.Mg
open Go Go.RowKit
set_option linter.all false
set_option maxRecDepth 100000
structure RnI (r:RawF) (H:Hp) (rb:Nat) (st:List Int):Prop where
 run:RunV H rb (mkF r) ((masksF r).map bt) st
 ok:okS (mkF r).st.length st
 ne:cmpV (mkF r) (masksF r) st≠[]
theorem RnI.keep0 {r:RawF} {H H':Hp} {rb:Nat} {st:List Int} (h:RnI r H rb st) (hk:Keep (fun _=>False) H H'):RnI r H' rb st:=⟨h.run.keep0 hk,h.ok,h.ne⟩
end Go.Mg
namespace Go.Mg
open Go Go.RowKit
set_option linter.all false
set_option maxRecDepth 100000
end Go.Mg
namespace Go.Mg
open Go Go.RowKit
set_option linter.all false
set_option maxRecDepth 100000
end Go.Mg
