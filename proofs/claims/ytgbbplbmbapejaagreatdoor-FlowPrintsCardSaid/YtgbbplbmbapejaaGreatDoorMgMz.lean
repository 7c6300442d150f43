/- the library's MakeNoZero: a new block of whatever bytes. -/
import Derived.Test.YtgbbplbmbapejaaGreatDoorMgLib
import Derived.Lib.MakeNoZero
set_option linter.all false
namespace Go.Mg
open Go Go.RowKit
theorem mnz_lib {P : Program} {f : FuncId} {ps : Array TypeId} {t e : TypeId} (h : LibIs P f (Extern.BytealgMakeNoZero.makeNoZero ps #[t])) (ht : P.underlying t = some (.slice e)) {n : Nat} (hn : n <= 281474976710656) {H : Hp} {K : Value -> Hp -> Prop}
  (hK : ∀ cs : Array Value, n <= cs.size -> K (.slice (some ⟨H.size, 0, none⟩) n cs.size) (H.push (.cells cs e))) : LibM P f #[.int .i64 (n : Int)] H K := by
 intro w hw
 subst hw
 obtain ⟨cs, h1, h2, _⟩ := Lib.run_makeNoZero (P := P) w ps t e ht n hn
 exact ⟨_, _, h.run' _ _ _ h1, ⟨rfl, rfl, rfl⟩, hK cs h2⟩
end Go.Mg
