/- keccak: the text of a digest. -/
import Derived.Test.YthffkklaodanaaaDoorMgK5
namespace Go.Mg
open Go Go.RowKit
set_option linter.unusedSimpArgs false
set_option linter.unusedVariables false
set_option maxRecDepth 10000
/- (keccak.ID).Text -/
def c_text (ι : Ids) : S :=
  .seq (.reg [.e (.v 1) (.box (ι.t 9) (.v 0)), .p (.v 2) (.mv (.c (.string ⟨#[]⟩)))]) (.seq (.reg [.e (.t 6) (.mkS (ι.t 19) 1 1 #[.int .u8 0] (.c (.int .i64 0)) (.c (.int .i64 64))), .p (.v 3) (.mv (.t
  6))]) (.seq (.seq (.reg [.p (.v 7) (.m (.ldn 32 (.v 1))), .p (.v 8) (.mv (.c (.int .i64 0)))]) (.blk 0 (.loop (.seq (.reg [.p (.v 9) (.cm .lss .i64 (.v 8) (.c (.int .i64 32)))]) (.seq (.ite (.v 9)
  .skip (.exit 0)) (.seq (.blk 1 (.seq (.reg [.p (.t 10) (.m (.ix 32 (.v 7) (.v 8))), .p (.v 5) (.mv (.t 10))]) (.dr (.px (.t 11) .none (.mv (.v 3)) (.px (.t 12) .none (.mv (.v 5)) (.px (.t 13) .none
  (.sh .shr .u8 (.t 12) (.c (.int .u64 4))) (.px (.t 14) .none (.m (.ixs (.c (.string ⟨#[48, 49, 50, 51, 52, 53, 54, 55, 56, 57, 97, 98, 99, 100, 101, 102]⟩)) (.t 13))) (.px (.t 15) .none (.mv (.v 5))
  (.px (.t 16) .none (.bt .and .u8 (.t 15) (.c (.int .u8 15))) (.px (.t 17) .none (.m (.ixs (.c (.string ⟨#[48, 49, 50, 51, 52, 53, 54, 55, 56, 57, 97, 98, 99, 100, 101, 102]⟩)) (.t 16))) (.wcons (.t
  18) .none (.bldF (ι.t 19) 1 2 [.t 14, .t 17]) (.wcons (.t 19) .none (.app false (ι.t 19) 1 1 #[.int .u8 0] (.t 11) (.t 18)) (.px (.v 3) .none (.mv (.t 19)) .done) .wnil) .wnil))))))))))) (.reg [.p (.t
  20) (.ar .add .i64 (.v 8) (.c (.int .i64 1))), .p (.v 8) (.mv (.t 20))]))))))) (.seq (.reg [.p (.t 21) (.mv (.v 3)), .p (.t 22) (.m (.b2s (.t 21))), .p (.v 2) (.mv (.t 22))]) .ret)))
def r_text : List RV := [.t 2]

def digL : List UInt8 := [48, 49, 50, 51, 52, 53, 54, 55, 56, 57, 97, 98, 99, 100, 101, 102]
def hexB (x : UInt8) : List UInt8 := [digL.getD (x.toNat / 16) 0, digL.getD (x.toNat % 16) 0]
def hexF (l : List UInt8) : List UInt8 := l.flatMap hexB
theorem hexF_len : ∀ (l : List UInt8), (hexF l).length = 2 * l.length
  | [] => rfl
  | x :: l => by
    have := hexF_len l
    simp only [hexF, List.flatMap_cons, List.length_append, List.length_cons, hexB] at this ⊢
    simp only [List.length_nil]
    omega
def TextSpec (P : Program) (k : FuncId) : Prop := ∀ (d : List UInt8) (H : Hp), d.length = 32 → CallsM P k #[.agg (w8 d).toArray] H fun r H' => r = .string ⟨(hexF d).toArray⟩ ∧ Keep (fun _ => False) H H'

theorem dig_get (n : Nat) (h : n < 16) : ((⟨#[48, 49, 50, 51, 52, 53, 54, 55, 56, 57, 97, 98, 99, 100, 101, 102]⟩ : ByteArray)[n]?.getD 0) = digL.getD n 0 := by
  have : ∀ m : Fin 16, ((⟨#[48, 49, 50, 51, 52, 53, 54, 55, 56, 57, 97, 98, 99, 100, 101, 102]⟩ : ByteArray)[m.val]?.getD 0) = digL.getD m.val 0 := by decide
  exact this ⟨n, h⟩
theorem and15 (x : UInt8) : bits .and .u8 (x.toNat : Int) 15 = ((x.toNat % 16 : Nat) : Int) := by
  have : ∀ m : Fin 256, bits .and .u8 ((m.val : Nat) : Int) 15 = ((m.val % 16 : Nat) : Int) := by decide +kernel
  exact this ⟨x.toNat, x.toNat_lt⟩
theorem hexF_app (a b : List UInt8) : hexF (a ++ b) = hexF a ++ hexF b := by simp [hexF]
theorem text_ok {P : Program} {ι : Ids} {k : FuncId} (hk : FnIs P k (c_text ι) r_text 1) : TextSpec P k := by
  intro d H hd
  refine calls_of_vc hk (args := [_]) (by simp) ?_
  unfold c_text r_text
  have hw : (w8 d).length = 32 := by rw [w8_len, hd]
  simp only [go_sem, List.map_cons, List.map_nil, ↓reduceIte, Nat.reduceEqDiff, Nat.reduceAdd, Nat.reduceMul, reduceCtorEq, and_true, true_and, Nat.mul_one, Nat.zero_add, Bool.false_eq_true, decide_true, decide_false, not_false_eq_true, cells_agg]
  refine kont_new fun H1 b1 e1 z1 B1 K1 => ?_
  simp only [go_sem, List.map_cons, List.map_nil, ↓reduceIte, Nat.reduceEqDiff, Nat.reduceAdd, Nat.reduceMul, reduceCtorEq, and_true, true_and, Nat.mul_one, Nat.zero_add, Bool.false_eq_true, decide_true, decide_false, not_false_eq_true]
  refine ⟨by decide, ?_⟩
  refine kont_news fun H2 b2 e2 z2 B2 K2 => ?_
  have e32 : List.take 32 (w8 d) = w8 d := List.take_of_length_le (by omega)
  simp only [go_sem, List.map_cons, List.map_nil, ↓reduceIte, Nat.reduceEqDiff, Nat.reduceAdd, Nat.reduceMul, reduceCtorEq, and_true, true_and, Nat.mul_one, Nat.zero_add, Bool.false_eq_true, decide_true, decide_false, not_false_eq_true, kont_eq, ldNO_ptr, (K2.bl B1 (by simp)).ldNA (o := 0) (n := 32) (by simp [hw]), List.drop_zero, e32]
  have hz : (rep #[Value.int IntKind.u8 0] 64).toList = w8 (hexF (d.take 0)) ++ List.replicate (64 - 2 * 0) (.int .u8 0) := by rw [rep_one]; rfl
  rw [hz] at B2
  refine vc_loop [9, 5, 3, 8] rfl (fun n f H' => ∃ i, i ≤ 32 ∧ n = 32 - i ∧ f 8 = .int .i64 i ∧ f 3 = .slice (some ⟨b2, 0, none⟩) (2 * i) 64 ∧ Bl H' b2 (w8 (hexF (d.take i)) ++ List.replicate (64 - 2 * i) (.int .u8 0)) ∧ Keep (fun _ => False) H H') 32
    ⟨0, by omega, by omega, rfl, rfl, B2, K1.trans K2⟩ ?_
  rintro n g H3 ⟨i, hi32, rfl, hf8, hf3, B3, K3⟩
  simp only [go_sem, List.map_cons, List.map_nil, ↓reduceIte, Nat.reduceEqDiff, Nat.reduceAdd, Nat.reduceMul, reduceCtorEq, and_true, true_and, Nat.mul_one, Nat.zero_add, Bool.false_eq_true, decide_true, decide_false, not_false_eq_true, kont_eq] at hf8 hf3
  simp only [go_sem, List.map_cons, List.map_nil, ↓reduceIte, Nat.reduceEqDiff, Nat.reduceAdd, Nat.reduceMul, reduceCtorEq, and_true, true_and, Nat.mul_one, Nat.zero_add, Bool.false_eq_true, decide_true, decide_false, not_false_eq_true, kont_eq, hf8, hf3]
  have hl1 : (w8 (hexF (d.take i))).length = 2 * i := by rw [w8_len, hexF_len, List.length_take]; omega
  refine iteV_dec (fun hlt => ?_) (fun hge => ?_)
  · have hi : i < 32 := by omega
    have hg := w8_get d i (by omega)
    have hx := (d.getD i 0).toNat_lt
    have e4 : ((d.getD i 0).toNat : Int) / 2 ^ 4 = (((d.getD i 0).toNat / 16 : Nat) : Int) := by
      have : (2 ^ 4 : Int) = 16 := by decide
      rw [this]; omega
    have d1 := dig_get ((d.getD i 0).toNat / 16) (by omega)
    have d2 := dig_get ((d.getD i 0).toNat % 16) (by omega)
    simp (disch := omega) only [go_sem, List.map_cons, List.map_nil, ↓reduceIte, Nat.reduceEqDiff, Nat.reduceAdd, Nat.reduceMul, reduceCtorEq, and_true, true_and, Nat.mul_one, Nat.zero_add, Bool.false_eq_true, decide_true, decide_false, not_false_eq_true, kont_eq, hf8, hf3, hg, List.getElem?_toArray]
    refine ⟨⟨by omega, by omega, by simp [hw]; omega⟩, ?_⟩
    refine vc_drk (fun b => b = b2) ?_
    simp (disch := omega) only [go_sem, List.map_cons, List.map_nil, ↓reduceIte, Nat.reduceEqDiff, Nat.reduceAdd, Nat.reduceMul, reduceCtorEq, and_true, true_and, Nat.mul_one, Nat.zero_add, Bool.false_eq_true, decide_true, decide_false, not_false_eq_true, kont_eq, AppC, hf8, hf3, hg, e4, and15, d1, d2, tn_cast]
    generalize hA : Array.push H3 _ = HA
    have BA : Bl HA H3.size (w8 (hexB (d.getD i 0))) := by rw [← hA]; exact Bl.new' _ _ _
    have KA : Keep (fun _ => False) H3 HA := by rw [← hA]; exact (Keep.refl _ _).push _
    have hb2 := B3.lt
    have BB := KA.bl B3 (by simp)
    have hp := BB.put 0 (2 * i) (w8 (hexB (d.getD i 0))).toArray
    have eW : wrL (w8 (hexF (d.take i)) ++ List.replicate (64 - 2 * i) (.int .u8 0)) (0 + 2 * i) (w8 (hexB (d.getD i 0))) = w8 (hexF (d.take (i + 1))) ++ List.replicate (64 - 2 * (i + 1)) (.int .u8 0) := by
      have ht : d.take (i + 1) = d.take i ++ [d.getD i 0] := by
        rw [List.take_add_one]
        simp [show i < d.length by omega]
      have e0 : (0 + 2 * i) = 2 * i + 0 := by omega
      rw [e0, wrL_right _ _ _ _ _ hl1.symm, ht, hexF_app, w8_app, List.append_assoc]
      congr 1
      have : hexF [d.getD i 0] = hexB (d.getD i 0) := by simp [hexF]
      rw [this]
      simp only [wrL, List.take_zero, List.nil_append, Nat.zero_add, List.drop_replicate]
      congr 2
    have KP : Keep (fun _ => False) H (putH HA (some ⟨b2, 0, none⟩) (2 * i) (w8 (hexB (d.getD i 0))).toArray) := (K3.trans KA).put rfl _ _ (.inr (by simp only []; have := K1.size; omega))
    refine ⟨by omega, by omega, by omega, KA.any, by unfold maxLen; omega, (w8 (hexB (d.getD i 0))).toArray, BA.srcN 0 2 2 2 (by simp [w8, hexB]), fun _ => ⟨BB.okPut _ _ _ (w8_all1 _) (by simp only [List.length_append, hl1, List.length_replicate, List.size_toArray, w8_len, hexB, List.length_cons, List.length_nil]; omega), (Keep.refl _ _).put rfl _ _ (.inl rfl), 32 - (i + 1), by omega, i + 1, by omega, rfl, ?_, ?_, ?_, KP⟩, fun h => by omega⟩
    · rw [IntWalk.i64_in _ ⟨by omega, by omega⟩]; simp
    · have : 2 * i + 2 = 2 * (i + 1) := by omega
      rw [this]
    · rw [eW] at hp; exact hp
  · have hi : i = 32 := by omega
    subst hi
    have ed : d.take 32 = d := List.take_of_length_le (by omega)
    rw [ed] at B3 hl1
    have hb := B3.bytesIn 0 (2 * 32) 64 (by simp [hl1])
    have e64 : List.take (2 * 32) (List.drop 0 (w8 (hexF d) ++ List.replicate (64 - 2 * 32) (.int .u8 0))) = w8 (hexF d) := by
      simp; exact List.take_of_length_le (by omega)
    rw [e64] at hb
    exact ⟨okB2s_w8 hb, by rw [hb, Option.getD_some, toBA_w8], K3⟩
end Go.Mg
