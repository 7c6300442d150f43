/- what a slice or a set shows is one thing. -/
import Derived.Test.YtjiacmbjgccfcaaGreatDoorMgB2
namespace Go.Mg
open Go Go.RowKit
theorem w64_inj {a b : List UInt64} (h : w64 a = w64 b) : a = b := by
  unfold w64 at h
  refine (List.map_inj_right fun x y e => ?_).1 h
  simp only [Value.int.injEq, true_and] at e
  exact UInt64.toNat_inj.1 (by omega)
theorem SlR.det {H : Hp} {v : Value} {l m : List Value} (h : SlR H v l) (k : SlR H v m) : l = m := by
  have hl : l.length = m.length := h.len.symm.trans k.len
  rcases h with ⟨a, c, rfl, rfl⟩ | ⟨b, o, c, h0, rfl, -, C, T, z, h1, -, h3⟩
  · exact (List.eq_nil_of_length_eq_zero hl.symm).symm
  · rcases k with ⟨a', c', e, rfl⟩ | ⟨b', o', c', k0, e, -, C', T', z', k1, -, k3⟩
    · exact List.eq_nil_of_length_eq_zero hl
    · simp only [Value.slice.injEq, Option.some.injEq, Addr.mk.injEq, and_true] at e
      obtain ⟨⟨rfl, rfl⟩, -, rfl⟩ := e
      rw [h1] at k1
      cases k1
      rw [← h3, hl, k3]
theorem SetM.det {H : Hp} {x : Value} {p q : Nat → Bool} (h : SetM H x p) (k : SetM H x q) (n : Nat) : p n = q n := by
  obtain ⟨v, W, rfl, hv⟩ := h
  obtain ⟨v', W', e, hw⟩ := k
  simp only [Value.agg.injEq, Array.mk.injEq, List.cons.injEq, and_true] at e
  subst e
  rw [← hv.is, ← hw.is, w64_inj (hv.sl.det hw.sl)]
end Go.Mg
