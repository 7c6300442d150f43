/- Lemmas of ours. No conditions. -/
import Derived.Test.YtkfikjdbdfekfabDoorMgCore
namespace Go.Mg
open Go Go.RowKit
def _root_.Go.Value.s:Value->ByteArray|.string s=>s|_=>.empty
def cR:Value->Prop|.string _=>True|_=>False
def qq:Value->Prop|.pointer (some _)=>True|_=>False
def isInt:Value->Prop|.int _ _=>True|_=>False
variable {v:Value}
theorem an {k:IntKind} (h:cb k v):v=.int k v.i:=by
 cases v<;>simp only[cb]at h;subst h;rfl
theorem ak (h:isInt v):∃k,v=.int k v.i:=by
 cases v<;>simp only[isInt]at h;exact⟨_,rfl⟩
theorem cf (h:lJ v):v=.bool v.b:=by
 cases v<;>simp only[lJ]at h;rfl
theorem ay (h:cR v):v=.string v.s:=by
 cases v<;>simp only[cR]at h;rfl
theorem ek (h:qq v):∃p,v=.pointer (some p):=by
 cases v<;>simp only[qq]at h
 rename_i a;cases a<;>simp only at h;exact⟨_,rfl⟩
section
variable {P:Program} {o:Oper} {w:World} {ρ:Operand->Value}
theorem aw {s:Sem Value} {v:Value} (h:s.run P w=.ok v w):(do pure (.value (←s)):Sem Next).run P w=.ok (.value v) w:=by
 simp only[Sem.run_bind,h,Result.andThen,Sem.run_pure]
end
section
variable {P:Program} {o:Oper} {w:World} {ρ:Operand->Value}
theorem bM (P:Program) (t:TypeId) (h:P.cellsOf t≠0) (w:World):(sizeOf t).run P w=.ok (P.cellsOf t) w:=by
 unfold Program.cellsOf at h⊢
 cases hi:P.info? t with
 |none=>simp[hi]at h
 |some i=>simp[sizeOf,typeInfo,program,Sem.run,hi,Sem.run_bind,Result.andThen]
end
section
variable {P:Program} {o:Oper} {w:World} {ρ:Operand->Value}
theorem aj (P:Program) (t:TypeId) (h:(P.info? t).isSome=true) (w:World):(sizeOf t).run P w=.ok (P.cellsOf t) w:=by
 unfold Program.cellsOf
 cases hi:P.info? t with
 |none=>simp[hi]at h
 |some i=>simp[sizeOf,typeInfo,program,Sem.run,hi,Sem.run_bind,Result.andThen]
end
section
variable {P:Program} {o:Oper} {w:World} {ρ:Operand->Value}
theorem en {H:Hp} (hw:w.heap=H) {a:Addr} {v:Value} (h:cell H a=some v):(load a).run P w=.ok v w:=by
 have:w.cell? a=some v:=by rw[nk,hw];exact h
 simp[load,Sem.run,this]
end
theorem bI {P:Program} {w:World} {t:TypeId} {x y:Value} {b:Bool} (h:∀d,(Op.equalIn (d+3) t x y).run P w=.ok b w):(Op.equal t x y).run P w=.ok b w:=h 9997
end Go.Mg
