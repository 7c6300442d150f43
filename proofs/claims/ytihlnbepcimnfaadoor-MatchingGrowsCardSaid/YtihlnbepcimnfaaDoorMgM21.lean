/- matching: the laws about wide graphs. -/
import Derived.Test.YtihlnbepcimnfaaDoorMgM20
namespace Go.Mg
open Go Go.RowKit
set_option linter.unusedSimpArgs false
set_option linter.unusedVariables false
set_option maxRecDepth 100000
/- arbaclaw09.MatchingHall -/
def c_lhall (ι : Ids) : S :=
  .seq (.reg [.p (.v 2) (.mv (.c (.bool false)))]) (.seq (.seq (.reg [.e (.t 13) (.call (ι.f 174) []), .p (.v 14) (.not (.t 13))]) (.ite (.v 14) (.seq (.reg [.p (.v 2) (.mv (.c (.bool false)))]) .ret)
  .skip)) (.seq (.reg [.p (.t 15) (.mv (.v 0)), .e (.t 16) (.call (ι.f 181) [.t 15]), .p (.v 3) (.mv (.t 16))]) (.seq (.reg [.p (.t 18) (.mv (.v 3)), .e (.t 19) (.call (ι.f 149) [.t 18]), .p (.t 17)
  (.mv (.t 19)), .p (.t 20) (.ext (.t 17) 0), .p (.t 21) (.ext (.t 17) 1), .p (.v 4) (.mv (.t 20)), .p (.v 5) (.mv (.t 21))]) (.seq (.seq (.reg [.p (.t 22) (.mv (.v 5)), .p (.t 23) (.cm .neq .i64 (.t
  22) (.c (.int .i64 0))), .p (.t 24) (.mv (.t 23)), .gp (.t 25) (.t 24) false (.mv (.v 3)), .gp (.t 26) (.t 24) false (.mv (.v 4)), .ge (.t 27) (.t 24) false (.call (ι.f 156) [.t 25, .t 26]), .gp (.t
  28) (.t 24) false (.not (.t 27)), .p (.t 29) (.pick (.t 24) (.c (.bool true)) (.t 28)), .p (.t 30) (.mv (.t 29)), .gp (.t 31) (.t 30) false (.mv (.v 4)), .gp (.t 32) (.t 30) false (.m (.lenl (.t
  31))), .gp (.t 33) (.t 30) false (.mv (.v 3)), .gp (.t 34) (.t 30) false (.m (.lenl (.t 33))), .gp (.t 35) (.t 30) false (.cm .neq .i64 (.t 32) (.t 34)), .p (.v 36) (.pick (.t 30) (.c (.bool true))
  (.t 35))]) (.ite (.v 36) (.seq (.reg [.p (.v 2) (.mv (.c (.bool false)))]) .ret) .skip)) (.seq (.reg [.p (.t 37) (.mv (.v 4)), .e (.t 38) (.call (ι.f 163) [.t 37]), .p (.v 6) (.mv (.t 38))]) (.seq
  (.reg [.p (.t 40) (.mv (.v 3)), .e (.t 41) (.call (ι.f 153) [.t 40]), .p (.t 39) (.mv (.t 41)), .p (.t 42) (.ext (.t 39) 0), .p (.t 43) (.ext (.t 39) 1), .p (.v 7) (.mv (.t 42)), .p (.v 8) (.mv (.t
  43))]) (.seq (.reg [.p (.t 45) (.mv (.v 3)), .e (.t 46) (.call (ι.f 162) [.t 45]), .p (.t 44) (.mv (.t 46)), .p (.t 47) (.ext (.t 44) 0), .p (.t 48) (.ext (.t 44) 1), .p (.v 9) (.mv (.t 47)), .p (.v
  10) (.mv (.t 48))]) (.seq (.seq (.reg [.p (.t 49) (.mv (.v 6)), .p (.t 50) (.mv (.v 3)), .p (.t 51) (.m (.lenl (.t 50))), .p (.v 52) (.cm .eql .i64 (.t 49) (.t 51))]) (.ite (.v 52) (.seq (.reg [.p (.t
  53) (.mv (.v 8)), .p (.t 54) (.not (.t 53)), .p (.t 55) (.mv (.t 54)), .gp (.t 56) (.t 55) true (.mv (.v 7)), .gp (.t 57) (.t 55) true (.m (.lenl (.t 56))), .gp (.t 58) (.t 55) true (.cm .eql .i64 (.t
  57) (.c (.int .i64 0))), .p (.t 59) (.pick (.t 55) (.t 58) (.c (.bool false))), .p (.t 60) (.mv (.t 59)), .gp (.t 61) (.t 60) true (.mv (.v 10)), .p (.t 62) (.pick (.t 60) (.t 61) (.c (.bool false))),
  .p (.t 63) (.mv (.t 62)), .gp (.t 64) (.t 63) true (.mv (.v 3)), .gp (.t 65) (.t 63) true (.mv (.v 9)), .ge (.t 66) (.t 63) true (.call (ι.f 156) [.t 64, .t 65]), .p (.t 67) (.pick (.t 63) (.t 66) (.c
  (.bool false))), .p (.t 68) (.mv (.t 67)), .gp (.t 69) (.t 68) true (.mv (.v 9)), .ge (.t 70) (.t 68) true (.call (ι.f 163) [.t 69]), .gp (.t 71) (.t 68) true (.mv (.v 6)), .gp (.t 72) (.t 68) true
  (.cm .eql .i64 (.t 70) (.t 71)), .p (.t 73) (.pick (.t 68) (.t 72) (.c (.bool false))), .p (.t 74) (.mv (.t 73)), .gp (.t 75) (.t 74) true (.mv (.v 9)), .gp (.t 76) (.t 74) true (.mv (.v 4)), .ge (.t
  77) (.t 74) true (.call (ι.f 186) [.t 75, .t 76]), .gp (.t 78) (.t 74) true (.cm .leq .i64 (.t 77) (.c (.int .i64 0))), .p (.t 79) (.pick (.t 74) (.t 78) (.c (.bool false))), .p (.v 2) (.mv (.t 79))])
  .ret) .skip)) (.seq (.seq (.reg [.p (.v 80) (.mv (.v 4)), .p (.v 81) (.m (.lenl (.v 80))), .p (.v 82) (.mv (.c (.int .i64 0)))]) (.blk 0 (.loop (.seq (.reg [.p (.v 83) (.cm .lss .i64 (.v 82) (.v
  81))]) (.seq (.ite (.v 83) .skip (.exit 0)) (.seq (.blk 1 (.seq (.reg [.p (.t 84) (.mv (.v 82)), .p (.t 85) (.is 1 (.v 80) (.v 82)), .p (.t 86) (.ld (.t 85)), .p (.v 11) (.mv (.t 84)), .p (.v 12) (.mv
  (.t 86))]) (.seq (.reg [.p (.t 87) (.mv (.v 12)), .p (.t 88) (.cm .lss .i64 (.t 87) (.c (.int .i64 0))), .p (.t 89) (.mv (.t 88)), .gp (.t 90) (.t 89) true (.mv (.v 7)), .gp (.t 91) (.t 89) true (.mv
  (.v 11)), .ge (.t 92) (.t 89) true (.call (ι.f 158) [.t 90, .t 91]), .gp (.t 93) (.t 89) true (.not (.t 92)), .p (.v 94) (.pick (.t 89) (.t 93) (.c (.bool false)))]) (.ite (.v 94) (.seq (.reg [.p (.v
  2) (.mv (.c (.bool false)))]) .ret) .skip)))) (.reg [.p (.t 95) (.ar .add .i64 (.v 82) (.c (.int .i64 1))), .p (.v 82) (.mv (.t 95))]))))))) (.seq (.reg [.p (.t 96) (.mv (.v 8)), .p (.t 97) (.mv (.t
  96)), .gp (.t 98) (.t 97) true (.mv (.v 10)), .gp (.t 99) (.t 97) true (.not (.t 98)), .p (.t 100) (.pick (.t 97) (.t 99) (.c (.bool false))), .p (.t 101) (.mv (.t 100)), .gp (.t 102) (.t 101) true
  (.mv (.v 9)), .gp (.t 103) (.t 101) true (.m (.lenl (.t 102))), .gp (.t 104) (.t 101) true (.cm .eql .i64 (.t 103) (.c (.int .i64 0))), .p (.t 105) (.pick (.t 101) (.t 104) (.c (.bool false))), .p (.t
  106) (.mv (.t 105)), .gp (.t 107) (.t 106) true (.mv (.v 7)), .ge (.t 108) (.t 106) true (.call (ι.f 184) [.t 107]), .p (.t 109) (.pick (.t 106) (.t 108) (.c (.bool false))), .p (.t 110) (.mv (.t
  109)), .gp (.t 111) (.t 110) true (.mv (.v 3)), .gp (.t 112) (.t 110) true (.mv (.v 7)), .ge (.t 113) (.t 110) true (.call (ι.f 182) [.t 111, .t 112]), .ge (.t 114) (.t 110) true (.call (ι.f 135) [.t
  113]), .gp (.t 115) (.t 110) true (.mv (.v 7)), .gp (.t 116) (.t 110) true (.m (.lenl (.t 115))), .gp (.t 117) (.t 110) true (.mv (.v 3)), .gp (.t 118) (.t 110) true (.m (.lenl (.t 117))), .gp (.t
  119) (.t 110) true (.mv (.v 6)), .gp (.t 120) (.t 110) true (.ar .sub .i64 (.t 118) (.t 119)), .gp (.t 121) (.t 110) true (.ar .sub .i64 (.t 116) (.t 120)), .gp (.t 122) (.t 110) true (.cm .eql .i64
  (.t 114) (.t 121)), .p (.t 123) (.pick (.t 110) (.t 122) (.c (.bool false))), .p (.v 2) (.mv (.t 123))]) .ret))))))))))
def r_lhall : List RV := [.t 2]
/- arbaclaw09.MatchingCovers -/
def c_lcov (ι : Ids) : S :=
  .seq (.reg [.p (.v 2) (.mv (.c (.bool false)))]) (.seq (.seq (.reg [.e (.t 13) (.call (ι.f 174) []), .p (.v 14) (.not (.t 13))]) (.ite (.v 14) (.seq (.reg [.p (.v 2) (.mv (.c (.bool false)))]) .ret)
  .skip)) (.seq (.reg [.p (.t 15) (.mv (.v 0)), .e (.t 16) (.call (ι.f 181) [.t 15]), .p (.v 3) (.mv (.t 16))]) (.seq (.reg [.p (.t 18) (.mv (.v 3)), .e (.t 19) (.call (ι.f 150) [.t 18]), .p (.t 17)
  (.mv (.t 19)), .p (.t 20) (.ext (.t 17) 0), .p (.t 21) (.ext (.t 17) 1), .p (.v 4) (.mv (.t 20)), .p (.v 5) (.mv (.t 21))]) (.seq (.reg [.p (.t 23) (.mv (.v 3)), .e (.t 24) (.call (ι.f 154) [.t 23]),
  .p (.t 22) (.mv (.t 24)), .p (.t 25) (.ext (.t 22) 0), .p (.t 26) (.ext (.t 22) 1), .p (.v 6) (.mv (.t 25)), .p (.v 7) (.mv (.t 26))]) (.seq (.reg [.p (.t 27) (.mv (.v 7)), .e (.t 28) (.call (ι.f 143)
  [.t 27]), .e (.v 8) (.new (ι.t 128) #[.slice .none 0 0]), .e .no (.stn 1 (.v 8) (.t 28))]) (.seq (.seq (.reg [.p (.t 29) (.mv (.v 5)), .p (.t 30) (.cm .neq .i64 (.t 29) (.c (.int .i64 0))), .p (.t 31)
  (.mv (.t 30)), .gp (.t 32) (.t 31) false (.mv (.v 6)), .gp (.t 33) (.t 31) false (.m (.lenl (.t 32))), .gp (.t 34) (.t 31) false (.mv (.v 7)), .gp (.t 35) (.t 31) false (.m (.lenl (.t 34))), .gp (.t
  36) (.t 31) false (.ar .add .i64 (.t 33) (.t 35)), .gp (.t 37) (.t 31) false (.mv (.v 4)), .gp (.t 38) (.t 31) false (.cm .neq .i64 (.t 36) (.t 37)), .p (.t 39) (.pick (.t 31) (.c (.bool true)) (.t
  38)), .p (.t 40) (.mv (.t 39)), .gp (.t 41) (.t 40) false (.mv (.v 6)), .ge (.t 42) (.t 40) false (.call (ι.f 184) [.t 41]), .gp (.t 43) (.t 40) false (.not (.t 42)), .p (.t 44) (.pick (.t 40) (.c
  (.bool true)) (.t 43)), .p (.t 45) (.mv (.t 44)), .gp (.t 46) (.t 45) false (.m (.ldn 1 (.v 8))), .ge (.t 47) (.t 45) false (.call (ι.f 139) [.t 46]), .gp (.t 48) (.t 45) false (.mv (.v 7)), .ge (.t
  49) (.t 45) false (.call (ι.f 165) [.t 47, .t 48]), .gp (.t 50) (.t 45) false (.not (.t 49)), .p (.v 51) (.pick (.t 45) (.c (.bool true)) (.t 50))]) (.ite (.v 51) (.seq (.reg [.p (.v 2) (.mv (.c
  (.bool false)))]) .ret) .skip)) (.seq (.reg [.p (.t 53) (.mv (.v 3)), .e (.t 54) (.call (ι.f 153) [.t 53]), .p (.t 52) (.mv (.t 54)), .p (.t 55) (.ext (.t 52) 0), .p (.t 56) (.ext (.t 52) 1), .p (.v
  9) (.mv (.t 55)), .p (.t 10) (.mv (.t 56))]) (.seq (.seq (.reg [.p (.v 57) (.mv (.v 3)), .p (.v 58) (.m (.lenl (.v 57))), .p (.v 59) (.mv (.c (.int .i64 0)))]) (.blk 0 (.loop (.seq (.reg [.p (.v 60)
  (.cm .lss .i64 (.v 59) (.v 58))]) (.seq (.ite (.v 60) .skip (.exit 0)) (.seq (.blk 1 (.seq (.reg [.p (.t 61) (.mv (.v 59)), .p (.t 62) (.is 1 (.v 57) (.v 59)), .p (.t 63) (.m (.ldn 1 (.t 62))), .e (.v
  12) (.new (ι.t 128) #[.slice .none 0 0]), .p (.v 11) (.mv (.t 61)), .e .no (.stn 1 (.v 12) (.t 63))]) (.seq (.reg [.p (.t 64) (.mv (.v 6)), .p (.t 65) (.mv (.v 11)), .e (.t 66) (.call (ι.f 158) [.t
  64, .t 65]), .p (.t 67) (.mv (.v 9)), .p (.t 68) (.mv (.v 11)), .e (.t 69) (.call (ι.f 158) [.t 67, .t 68]), .p (.t 70) (.eqb false (.t 66) (.t 69)), .p (.t 71) (.mv (.t 70)), .gp (.t 72) (.t 71)
  false (.mv (.v 6)), .gp (.t 73) (.t 71) false (.mv (.v 11)), .ge (.t 74) (.t 71) false (.call (ι.f 158) [.t 72, .t 73]), .gp (.t 75) (.t 71) false (.not (.t 74)), .gp (.t 76) (.t 71) false (.mv (.t
  75)), .gp (.t 77) (.t 76) true (.m (.ldn 1 (.v 12))), .gp (.t 78) (.t 76) true (.m (.ldn 1 (.v 8))), .ge (.t 79) (.t 76) true (.call (ι.f 141) [.t 77, .t 78]), .gp (.t 80) (.t 76) true (.not (.t 79)),
  .gp (.t 81) (.t 71) false (.pick (.t 76) (.t 80) (.c (.bool false))), .p (.v 82) (.pick (.t 71) (.c (.bool true)) (.t 81))]) (.ite (.v 82) (.seq (.reg [.p (.v 2) (.mv (.c (.bool false)))]) .ret)
  .skip)))) (.reg [.p (.t 83) (.ar .add .i64 (.v 59) (.c (.int .i64 1))), .p (.v 59) (.mv (.t 83))]))))))) (.seq (.dr (.px (.t 84) .none (.mv (.v 3)) (.px (.t 85) .none (.mv (.v 9)) (.px (.t 87) .none
  (.m (.ldn 1 (.v 8))) (.wcons (.t 86) .none (.call (ι.f 182) [.t 84, .t 85]) (.wcons (.t 88) .none (.call (ι.f 140) [.t 86, .t 87]) (.px (.v 2) .none (.mv (.t 88)) .done) .wnil) .wnil)))))
  .ret)))))))))
def r_lcov : List RV := [.t 2]
/- arbaclaw09.MatchingGrows -/
def c_lgrow (ι : Ids) : S :=
  .seq (.reg [.p (.v 6) (.mv (.c (.bool false)))]) (.seq (.seq (.reg [.e (.t 18) (.call (ι.f 174) []), .p (.v 19) (.not (.t 18))]) (.ite (.v 19) (.seq (.reg [.p (.v 6) (.mv (.c (.bool false)))]) .ret)
  .skip)) (.seq (.reg [.p (.t 20) (.mv (.v 0)), .e (.t 21) (.call (ι.f 181) [.t 20]), .p (.v 7) (.mv (.t 21))]) (.seq (.seq (.reg [.p (.t 22) (.mv (.v 7)), .p (.t 23) (.m (.lenl (.t 22))), .p (.v 24)
  (.cm .eql .i64 (.t 23) (.c (.int .i64 0)))]) (.ite (.v 24) (.seq (.reg [.p (.v 6) (.mv (.c (.bool true)))]) .ret) .skip)) (.seq (.reg [.p (.t 25) (.mv (.v 1)), .p (.t 26) (.ii .i64 (.t 25)), .p (.t
  27) (.mv (.v 7)), .p (.t 28) (.m (.lenl (.t 27))), .p (.t 29) (.dv .rem .i64 (.t 26) (.t 28)), .p (.v 8) (.mv (.t 29))]) (.seq (.reg [.p (.t 30) (.mv (.v 7)), .e (.t 31) (.call (ι.f 188) [.t 30]), .p
  (.v 9) (.mv (.t 31))]) (.seq (.reg [.p (.t 32) (.mv (.v 9)), .p (.t 33) (.mv (.v 8)), .p (.t 34) (.mv (.v 9)), .p (.t 35) (.mv (.v 8)), .p (.t 36) (.is 1 (.t 34) (.t 35)), .p (.t 37) (.m (.ldn 1 (.t
  36))), .p (.t 38) (.mv (.v 2)), .p (.t 39) (.ii .i64 (.t 38)), .e (.t 40) (.call (ι.f 131) [.t 37, .t 39]), .p (.t 41) (.is 1 (.t 32) (.t 33)), .e .no (.stn 1 (.t 41) (.t 40))]) (.seq (.reg [.p (.t
  43) (.mv (.v 7)), .e (.t 44) (.call (ι.f 150) [.t 43]), .p (.t 42) (.mv (.t 44)), .p (.t 45) (.ext (.t 42) 0), .p (.t 46) (.ext (.t 42) 1), .p (.v 10) (.mv (.t 45)), .p (.v 11) (.mv (.t 46))]) (.seq
  (.reg [.p (.t 48) (.mv (.v 9)), .e (.t 49) (.call (ι.f 150) [.t 48]), .p (.t 47) (.mv (.t 49)), .p (.t 50) (.ext (.t 47) 0), .p (.t 51) (.ext (.t 47) 1), .p (.v 12) (.mv (.t 50)), .p (.v 13) (.mv (.t
  51))]) (.seq (.reg [.p (.t 53) (.mv (.v 7)), .e (.t 54) (.call (ι.f 153) [.t 53]), .p (.t 52) (.mv (.t 54)), .p (.t 55) (.ext (.t 52) 0), .p (.t 56) (.ext (.t 52) 1), .p (.v 14) (.mv (.t 55)), .p (.t
  15) (.mv (.t 56))]) (.seq (.reg [.p (.t 58) (.mv (.v 7)), .e (.t 59) (.call (ι.f 154) [.t 58]), .p (.t 57) (.mv (.t 59)), .p (.t 60) (.ext (.t 57) 0), .p (.t 61) (.ext (.t 57) 1), .p (.t 16) (.mv (.t
  60)), .p (.v 17) (.mv (.t 61))]) (.seq (.seq (.reg [.p (.t 62) (.mv (.v 11)), .p (.t 63) (.cm .neq .i64 (.t 62) (.c (.int .i64 0))), .p (.t 64) (.mv (.t 63)), .gp (.t 65) (.t 64) false (.mv (.v 13)),
  .gp (.t 66) (.t 64) false (.cm .neq .i64 (.t 65) (.c (.int .i64 0))), .p (.t 67) (.pick (.t 64) (.c (.bool true)) (.t 66)), .p (.t 68) (.mv (.t 67)), .gp (.t 69) (.t 68) false (.mv (.v 12)), .gp (.t
  70) (.t 68) false (.mv (.v 10)), .gp (.t 71) (.t 68) false (.cm .lss .i64 (.t 69) (.t 70)), .p (.t 72) (.pick (.t 68) (.c (.bool true)) (.t 71)), .p (.t 73) (.mv (.t 72)), .gp (.t 74) (.t 73) false
  (.mv (.v 12)), .gp (.t 75) (.t 73) false (.mv (.v 10)), .gp (.t 76) (.t 73) false (.ar .add .i64 (.t 75) (.c (.int .i64 1))), .gp (.t 77) (.t 73) false (.cm .gtr .i64 (.t 74) (.t 76)), .p (.v 78)
  (.pick (.t 73) (.c (.bool true)) (.t 77))]) (.ite (.v 78) (.seq (.reg [.p (.v 6) (.mv (.c (.bool false)))]) .ret) .skip)) (.seq (.reg [.p (.t 79) (.mv (.v 12)), .p (.t 80) (.mv (.v 10)), .p (.t 81)
  (.cm .eql .i64 (.t 79) (.t 80)), .p (.t 82) (.mv (.t 81)), .gp (.t 83) (.t 82) false (.mv (.v 14)), .gp (.t 84) (.t 82) false (.mv (.v 8)), .ge (.t 85) (.t 82) false (.call (ι.f 158) [.t 83, .t 84]),
  .gp (.t 86) (.t 82) false (.mv (.t 85)), .gp (.t 87) (.t 86) true (.mv (.v 17)), .gp (.t 88) (.t 86) true (.mv (.v 2)), .gp (.t 89) (.t 86) true (.ii .i64 (.t 88)), .ge (.t 90) (.t 86) true (.call
  (ι.f 158) [.t 87, .t 89]), .gp (.t 91) (.t 86) true (.not (.t 90)), .gp (.t 92) (.t 82) false (.pick (.t 86) (.t 91) (.c (.bool false))), .p (.t 93) (.pick (.t 82) (.c (.bool true)) (.t 92)), .p (.v
  6) (.mv (.t 93))]) .ret))))))))))))
def r_lgrow : List RV := [.t 6]
structure MWide (P : Program) (ι : Ids) : Prop where
  aw : MAwakeSpec P ι (ι.f 174)
  wm : WMakeSpec P (ι.f 181)
  mx : MMaxSpec P ι (ι.f 149)
  sz : MSizeSpec P ι (ι.f 150)
  df : MDefSpec P ι (ι.f 153)
  le : MLeastSpec P ι (ι.f 162)
  cv : MCovSpec P ι (ι.f 154)
  ck : MChkSpec P (ι.f 156)
  mc : MtcSpec P (ι.f 163)
  lx : LexSpec P (ι.f 186)
  co : IConSpec P (ι.f 158)
  so : SortSpec P (ι.f 184)
  ne : NeighSpec P (ι.f 182)
  bl : BLenSpec P (ι.f 135)
  of : BOfSpec P (ι.f 143)
  ls : BListSpec P ι (ι.f 139)
  be : BEqualSpec P (ι.f 140)
  wi : BWithinSpec P (ι.f 141)
  bw : BWithSpec P (ι.f 131)
  eq : IEqSpec P (ι.f 165)
  gc : GClnSpec P (ι.f 188)
theorem sorted_range (n : Nat) (p : Nat → Bool) : ∀ i, i + 1 < (nI ((List.range n).filter p)).length → gi (nI ((List.range n).filter p)) i ≤ gi (nI ((List.range n).filter p)) (i + 1) := by
  intro i hi
  have h : ((List.range n).filter p).Pairwise (· < ·) := List.pairwise_lt_range.filter _
  rw [nI_len] at hi
  rw [List.pairwise_iff_getElem] at h
  have := h i (i + 1) (by omega) hi (by omega)
  unfold gi nI
  rw [List.getD_eq_getElem?_getD, List.getD_eq_getElem?_getD, List.getElem?_map, List.getElem?_map, List.getElem?_eq_getElem hi, List.getElem?_eq_getElem (by omega : i < _)]
  simp only [Option.map_some, Option.getD_some]
  omega
theorem mem_nI {l : List Nat} {a : Nat} : (a : Int) ∈ nI l ↔ a ∈ l := by
  unfold nI
  rw [List.mem_map]
  exact ⟨fun ⟨b, hb, e⟩ => by have : b = a := by omega
                              subst this; exact hb, fun h => ⟨a, h, rfl⟩⟩
theorem lhall_ok {P : Program} {ι : Ids} {k : FuncId} (hk : FnIs P k (c_lhall ι) r_lhall 1) (h : MWide P ι) (ws : List (List UInt8)) (v : Value) (H : Hp) (hT : TabOk ι H) (hv : WdR 3 H v ws) :
    CallsM P k #[v] H fun r H' => r = .bool true ∧ Keep (fun _ => False) H H' := by
  obtain ⟨R, hR⟩ : ∃ R : Value → Hp → Prop, R = fun r H' => r = .bool true ∧ Keep (fun _ => False) H H' := ⟨_, rfl⟩
  rw [← hR]
  refine calls_of_vc hk (args := [_]) (by simp) ?_
  unfold c_lhall r_lhall
  have hlow := wideP_low ws
  have hl40 := wideP_len ws
  simp only [go_sem, List.map_cons, List.map_nil, ↓reduceIte, Nat.reduceEqDiff, Nat.reduceAdd, Nat.reduceMul, reduceCtorEq, and_true, true_and, Nat.mul_one, Nat.zero_add, Bool.false_eq_true, decide_true, decide_false, not_false_eq_true, kont_eq]
  refine (h.aw H hT).mono ?_
  rintro r H1 ⟨rfl, K1⟩
  simp only [go_sem, List.map_cons, List.map_nil, ↓reduceIte, Nat.reduceEqDiff, Nat.reduceAdd, Nat.reduceMul, reduceCtorEq, and_true, true_and, Nat.mul_one, Nat.zero_add, Bool.false_eq_true, decide_true, decide_false, not_false_eq_true, kont_eq]
  refine (h.wm ws v H1 (hv.keep0 K1)).mono ?_
  rintro g H2 ⟨gvs, G2, K2⟩
  generalize wideP ws = ps at *
  have h0 := hlow.chk
  simp only [go_sem, List.map_cons, List.map_nil, ↓reduceIte, Nat.reduceEqDiff, Nat.reduceAdd, Nat.reduceMul, reduceCtorEq, and_true, true_and, Nat.mul_one, Nat.zero_add, Bool.false_eq_true, decide_true, decide_false, not_false_eq_true, kont_eq]
  have hT2 := (hT.keep K1).keep K2
  refine (h.mx ps g _ H2 hT2 G2.toM (by omega)).mono ?_
  intro r H3 hp
  obtain ⟨⟨mv, rfl, hmv⟩, K3⟩ := hp.gen
  obtain ⟨L, SL, ⟨bl, rfl⟩, hLl, hMx⟩ : ∃ L, SlR H3 mv (iL L) ∧ (∃ b, mv = .slice (some ⟨b, 0, none⟩) ps.length ps.length) ∧ L.length = ps.length ∧ Mx ps.length 256 (Eg (gl ps)) (gi L) := by
    rcases hmv with ⟨h', _⟩ | ⟨_, h'⟩
    · exact absurd h0 h'
    · exact h'
  have GM3 := G2.toM.keep0 K3
  have hgl := G2.ow.sl.len
  rw [G2.len] at hgl
  have hgs := G2.ow.sl.isSl
  have d0 : ((0 : Int) != 0) = false := rfl
  rw [h0, kont_eq]
  simp only [go_sem, List.map_cons, List.map_nil, ↓reduceIte, Nat.reduceEqDiff, Nat.reduceAdd, Nat.reduceMul, reduceCtorEq, and_true, true_and, Nat.mul_one, Nat.zero_add, Bool.false_eq_true, decide_true, decide_false, not_false_eq_true, d0]
  refine (h.ck ps L g _ _ H3 GM3 SL (by omega)).mono ?_
  rintro r H4 ⟨⟨bb, rfl, hbb⟩, K4⟩
  have hbb : bb = true := hbb.2 (ckP_of h0 hLl hMx.1)
  subst hbb
  have dl : ((ps.length : Int) != (ps.length : Int)) = false := by simp
  have SL4 := SL.keep K4 (by simp)
  rw [kont_eq]
  simp only [go_sem, List.map_cons, List.map_nil, ↓reduceIte, Nat.reduceEqDiff, Nat.reduceAdd, Nat.reduceMul, reduceCtorEq, and_true, true_and, Nat.mul_one, Nat.zero_add, Bool.false_eq_true, decide_true, decide_false, not_false_eq_true, hgs, hgl, dl]
  refine (h.mc L _ H4 SL4 (by omega)).mono ?_
  rintro r H5 ⟨rfl, rfl⟩
  have hmt : mtc L = cn ps.length (mt (gi L)) := by rw [mtc_cn, hLl]
  have hT4 := (hT2.keep K3).keep K4
  rw [kont_eq]
  simp only [go_sem, List.map_cons, List.map_nil, ↓reduceIte, Nat.reduceEqDiff, Nat.reduceAdd, Nat.reduceMul, reduceCtorEq, and_true, true_and, Nat.mul_one, Nat.zero_add, Bool.false_eq_true, decide_true, decide_false, not_false_eq_true]
  refine (h.df ps g _ H5 hT4 (GM3.keep0 K4) (by omega)).mono ?_
  rintro r H6 ⟨⟨h', _⟩ | ⟨dv, D, _, hD, rfl, hdO, hdo⟩, K6⟩
  · exact absurd h0 h'
  rw [kont_eq]
  simp only [go_sem, List.map_cons, List.map_nil, ↓reduceIte, Nat.reduceEqDiff, Nat.reduceAdd, Nat.reduceMul, reduceCtorEq, and_true, true_and, Nat.mul_one, Nat.zero_add, Bool.false_eq_true, decide_true, decide_false, not_false_eq_true]
  refine (h.le ps g _ H6 (hT4.keep K6) ((GM3.keep0 K4).keep0 K6) (by omega)).mono ?_
  rintro r H7 ⟨hle, K7⟩
  have K46 := K6.trans K7
  have K07 := ((((K1.trans K2).trans K3).trans K4).trans K6).trans K7
  have hdS := hdO.sl.keep K7 (by simp)
  obtain ⟨da, dn, dc, rfl⟩ := hdO.shape
  have hdl := hdS.len
  rw [iL_len, nI_len] at hdl
  have hdl : dn = (inD D ps.length).length := hdl
  subst hdl
  have hcl := cn_le ps.length (mt (gi L))
  by_cases hfull : cn ps.length (mt (gi L)) = ps.length
  · have hnil := (hD.none hMx).2 hfull
    rcases hle with ⟨h' | ⟨L2, hX2, i, hi, hi1⟩, rfl⟩ | ⟨lv, L2, _, hP, hLT, hLl2, rfl, SL2, hn2⟩
    · exact absurd h0 h'
    · have h1 := Mx.same hX2 hMx
      rw [hfull] at h1
      have := cn_full h1 i hi
      unfold mt at this
      rw [hi1] at this; cases this
    · have hall : ∀ i < ps.length, 0 ≤ gi L i := fun i hi => by
        have := cn_full hfull i hi
        unfold mt at this
        exact of_decide_eq_true this
      have hmt2 : mtc L2 = cn ps.length (mt (gi L)) := by
        rw [mtc_cn, hLl2, hfull, cn_eq_all]
        intro i hi
        unfold mt; exact decide_eq_true (hP.all i hi)
      have e1 : (((cn ps.length (mt (gi L)) : Nat) : Int) == (ps.length : Int)) = true := by rw [hfull]; simp
      have e2 : decide (((inD D ps.length).length : Int) > 0) = false := by rw [hnil]; rfl
      have e3 : (((inD D ps.length).length : Int) == 0) = true := by rw [hnil]; rfl
      obtain ⟨la, lc, rfl, -⟩ := id SL2.mk
      rw [hmt, kont_eq]
      simp only [go_sem, List.map_cons, List.map_nil, ↓reduceIte, Nat.reduceEqDiff, Nat.reduceAdd, Nat.reduceMul, reduceCtorEq, and_true, true_and, Nat.mul_one, Nat.zero_add, Bool.false_eq_true, decide_true, decide_false, not_false_eq_true, hgs, hgl, e1, e2, e3]
      refine (h.ck ps L2 g _ _ H7 ((GM3.keep0 K4).keep0 K46) SL2 (by omega)).mono ?_
      rintro r H8 ⟨⟨b8, rfl, hb8⟩, K8⟩
      have hb8 : b8 = true := hb8.2 (ckP_of h0 hLl2 hP.m)
      subst hb8
      have SL28 := SL2.keep K8 (by simp)
      rw [kont_eq]
      simp only [go_sem, List.map_cons, List.map_nil, ↓reduceIte, Nat.reduceEqDiff, Nat.reduceAdd, Nat.reduceMul, reduceCtorEq, and_true, true_and, Nat.mul_one, Nat.zero_add, Bool.false_eq_true, decide_true, decide_false, not_false_eq_true]
      refine (h.mc L2 _ H8 SL28 (by omega)).mono ?_
      rintro r H9 ⟨rfl, rfl⟩
      have e4 : (((cn ps.length (mt (gi L)) : Nat) : Int) == ((cn ps.length (mt (gi L)) : Nat) : Int)) = true := by simp
      rw [hmt2, kont_eq]
      simp only [go_sem, List.map_cons, List.map_nil, ↓reduceIte, Nat.reduceEqDiff, Nat.reduceAdd, Nat.reduceMul, reduceCtorEq, and_true, true_and, Nat.mul_one, Nat.zero_add, Bool.false_eq_true, decide_true, decide_false, not_false_eq_true, e4]
      refine (h.lx L2 L _ _ H9 SL28 (SL4.keep (K46.trans K8) (by simp)) (by omega) (by omega) (fun i hi he => hLT i (by omega) _ ⟨hMx.1, hall⟩ he)).mono ?_
      rintro r H10 ⟨⟨n, rfl, hn⟩, rfl⟩
      have e5 : decide (n ≤ 0) = true := decide_eq_true hn
      simp only [go_sem, List.map_cons, List.map_nil, ↓reduceIte, Nat.reduceEqDiff, Nat.reduceAdd, Nat.reduceMul, reduceCtorEq, and_true, true_and, Nat.mul_one, Nat.zero_add, Bool.false_eq_true, decide_true, decide_false, not_false_eq_true, kont_eq, e5]
      rw [hR]
      exact ⟨rfl, K07.trans K8⟩
  · rcases hle with ⟨_, rfl⟩ | ⟨lv, L2, _, hP, hLT, hLl2, rfl, SL2, hn2⟩
    rotate_left
    · exfalso
      have h1 := hMx.max hP.m
      have h2 : cn ps.length (mt (gi L2)) = ps.length := by
        rw [cn_eq_all]; intro i hi; unfold mt; exact decide_eq_true (hP.all i hi)
      omega
    · have e1 : (((cn ps.length (mt (gi L)) : Nat) : Int) == (ps.length : Int)) = false := by rw [beq_eq_false_iff_ne]; omega
      have hpos : 0 < (inD D ps.length).length := by
        apply Nat.pos_of_ne_zero
        intro hz
        exact hfull ((hD.none hMx).1 (List.eq_nil_of_length_eq_zero hz))
      have e2 : decide (((inD D ps.length).length : Int) > 0) = true := decide_eq_true (by omega)
      rw [hmt, kont_eq]
      simp only [go_sem, List.map_cons, List.map_nil, ↓reduceIte, Nat.reduceEqDiff, Nat.reduceAdd, Nat.reduceMul, reduceCtorEq, and_true, true_and, Nat.mul_one, Nat.zero_add, Bool.false_eq_true, decide_true, decide_false, not_false_eq_true, kont_eq, hgs, hgl, e1, e2]
      have SL7 := SL4.keep K46 (by simp)
      have GM7 := (GM3.keep0 K4).keep0 K46
      have hdle := inD_le D ps.length
      refine vc_loop [83, 11, 12, 94, 2, 82] rfl (fun n f H' => ∃ i : Nat, i ≤ ps.length ∧ n = ps.length - i ∧ f 82 = .int .i64 i ∧ H' = H7) ps.length
        ⟨0, by omega, by omega, by simp only [go_sem, List.map_cons, List.map_nil, ↓reduceIte, Nat.reduceEqDiff, Nat.reduceAdd, Nat.reduceMul, reduceCtorEq, and_true, true_and, Nat.mul_one, Nat.zero_add, Bool.false_eq_true, decide_true, decide_false, not_false_eq_true, kont_eq]; rfl, rfl⟩ ?_
      rintro n f H8 ⟨i, hi, rfl, hf, rfl⟩
      simp only [go_sem, List.map_cons, List.map_nil, ↓reduceIte, Nat.reduceEqDiff, Nat.reduceAdd, Nat.reduceMul, reduceCtorEq, and_true, true_and, Nat.mul_one, Nat.zero_add, Bool.false_eq_true, decide_true, decide_false, not_false_eq_true, kont_eq] at hf
      simp only [go_sem, List.map_cons, List.map_nil, ↓reduceIte, Nat.reduceEqDiff, Nat.reduceAdd, Nat.reduceMul, reduceCtorEq, and_true, true_and, Nat.mul_one, Nat.zero_add, Bool.false_eq_true, decide_true, decide_false, not_false_eq_true, hf]
      refine iteV_dec (fun hlt => ?_) (fun hge => ?_)
      · have hlt : i < ps.length := by omega
        obtain ⟨cb, co, cc, hce, -, hcc⟩ := SL7.cells (by intro e; have h := congrArg List.length e; rw [iL_len, List.length_nil] at h; omega)
        injection hce with hce1 hce2 hce3
        injection hce1 with hce1
        injection hce1 with hce4 hce5
        subst hce4 hce5
        rw [iL_len] at hcc
        have hci := hcc i (by omega)
        rw [iL_at (by omega), Nat.zero_add] at hci
        by_cases hneg : gi L i < 0
        · have e3 : decide (gi L i < 0) = true := decide_eq_true hneg
          have hin : i ∈ inD D ps.length := by
            refine mem_inD.2 ⟨hlt, (hD.iff hlt).2 ⟨_, hMx, ?_⟩⟩
            rcases hMx.1.ed i hlt with h1 | ⟨j, _, h1, _⟩ <;> omega
          simp only [go_sem, List.map_cons, List.map_nil, ↓reduceIte, Nat.reduceEqDiff, Nat.reduceAdd, Nat.reduceMul, reduceCtorEq, and_true, true_and, Nat.mul_one, Nat.zero_add, Bool.false_eq_true, decide_true, decide_false, not_false_eq_true, kont_eq, hf, tn_cast, Nat.mul_one, hci, e3]
          refine ⟨by omega, ?_⟩
          refine (h.co (nI (inD D ps.length)) _ (i : Int) H8 hdS (by rw [nI_len]; omega)).mono ?_
          rintro r H9 ⟨⟨b, rfl, hb⟩, rfl⟩
          have hb : b = true := hb.2 (mem_nI.2 hin)
          subst hb
          simp (disch := omega) only [go_sem, List.map_cons, List.map_nil, ↓reduceIte, Nat.reduceEqDiff, Nat.reduceAdd, Nat.reduceMul, reduceCtorEq, and_true, true_and, Nat.mul_one, Nat.zero_add, Bool.false_eq_true, decide_true, decide_false, not_false_eq_true, kont_eq, hf, IntWalk.i64_in]
          exact ⟨ps.length - (i + 1), by omega, i + 1, by omega, rfl, by simp⟩
        · have e3 : decide (gi L i < 0) = false := decide_eq_false hneg
          simp (disch := omega) only [go_sem, List.map_cons, List.map_nil, ↓reduceIte, Nat.reduceEqDiff, Nat.reduceAdd, Nat.reduceMul, reduceCtorEq, and_true, true_and, Nat.mul_one, Nat.zero_add, Bool.false_eq_true, decide_true, decide_false, not_false_eq_true, kont_eq, hf, tn_cast, Nat.mul_one, hci, e3, IntWalk.i64_in]
          exact ⟨by omega, ps.length - (i + 1), by omega, i + 1, by omega, rfl, by simp⟩
      · have z0 : ((((0 : Nat) : Int)) == 0) = true := rfl
        obtain ⟨hsm, hcov⟩ := hD.small hlow hMx
        have hio := in_out D ps.length
        simp only [go_sem, List.map_cons, List.map_nil, ↓reduceIte, Nat.reduceEqDiff, Nat.reduceAdd, Nat.reduceMul, reduceCtorEq, and_true, true_and, Nat.mul_one, Nat.zero_add, Bool.false_eq_true, decide_true, decide_false, not_false_eq_true, z0]
        refine (h.so (nI (inD D ps.length)) _ H8 hdS (by rw [nI_len]; omega) (sorted_range _ _)).mono ?_
        rintro r H9 ⟨rfl, rfl⟩
        rw [kont_eq]
        simp only [go_sem, List.map_cons, List.map_nil, ↓reduceIte, Nat.reduceEqDiff, Nat.reduceAdd, Nat.reduceMul, reduceCtorEq, and_true, true_and, Nat.mul_one, Nat.zero_add, Bool.false_eq_true, decide_true, decide_false, not_false_eq_true]
        refine (h.ne ps (inD D ps.length) g _ _ H9 GM7 hdS (fun a ha => (mem_inD.1 ha).1) (by omega)).mono ?_
        rintro r Ha ⟨Sa, Ka⟩
        rw [kont_eq]
        simp only [go_sem, List.map_cons, List.map_nil, ↓reduceIte, Nat.reduceEqDiff, Nat.reduceAdd, Nat.reduceMul, reduceCtorEq, and_true, true_and, Nat.mul_one, Nat.zero_add, Bool.false_eq_true, decide_true, decide_false, not_false_eq_true]
        refine (h.bl _ r Ha Sa).mono ?_
        rintro r Hb ⟨rfl, Kb⟩
        have w1 : IntKind.i64.wrap ((ps.length : Int) - ((cn ps.length (mt (gi L)) : Nat) : Int)) = (ps.length : Int) - ((cn ps.length (mt (gi L)) : Nat) : Int) := IntWalk.i64_in _ ⟨by omega, by omega⟩
        have w2 : IntKind.i64.wrap (((inD D ps.length).length : Int) - ((ps.length : Int) - ((cn ps.length (mt (gi L)) : Nat) : Int))) = ((inD D ps.length).length : Int) - ((ps.length : Int) - ((cn ps.length (mt (gi L)) : Nat) : Int)) := IntWalk.i64_in _ ⟨by omega, by omega⟩
        have e6 : ((((mems (nbP ps (inD D ps.length))).length : Nat) : Int) == ((inD D ps.length).length : Int) - ((ps.length : Int) - ((cn ps.length (mt (gi L)) : Nat) : Int))) = true := by
          rw [beq_iff_eq]; omega
        simp only [go_sem, List.map_cons, List.map_nil, ↓reduceIte, Nat.reduceEqDiff, Nat.reduceAdd, Nat.reduceMul, reduceCtorEq, and_true, true_and, Nat.mul_one, Nat.zero_add, Bool.false_eq_true, decide_true, decide_false, not_false_eq_true, kont_eq, hgs, hgl, w1, w2, e6]
        rw [hR]
        exact ⟨rfl, (K07.trans Ka).trans Kb⟩
end Go.Mg
