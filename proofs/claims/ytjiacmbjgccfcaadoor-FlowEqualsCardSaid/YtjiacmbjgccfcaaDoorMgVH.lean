/- flow: the laws' spoil gives some workflow again. -/
import Derived.Test.YtjiacmbjgccfcaaDoorMgVE
import Derived.Test.YtjiacmbjgccfcaaDoorMgTvr
namespace Go.Mg
open Go Go.RowKit
set_option linter.unusedSimpArgs false
set_option linter.unusedVariables false
set_option maxRecDepth 100000
def c_sp0 (ι : Ids) : S :=
  (.reg [.p (.t 20) (.fa 0 (.v 2)), .e .no (.st (.t 20) (.c (.slice .none 0 0)))])
def c_sp1 (ι : Ids) : S :=
  (.seq (.reg [.p (.t 23) (.fa 0 (.v 2)), .p (.t 24) (.ld (.t 23)), .e (.t 25) (.call (ι.f 293) [.t 24]), .p (.t 26) (.fa 0 (.v 2)), .e .no (.st (.t 26) (.t 25))]) (.blk 1 (.loop (.seq (.seq (.reg [.p
  (.t 27) (.fa 0 (.v 2)), .p (.t 28) (.ld (.t 27)), .p (.t 29) (.m (.lenl (.t 28))), .p (.v 30) (.cm .leq .i64 (.t 29) (.c (.int .i64 10)))]) (.ite (.v 30) .skip (.exit 1))) (.blk 2 (.dr (.px (.t 31)
  .none (.fa 0 (.v 2)) (.px (.t 33) .none (.fa 0 (.v 2)) (.wcons (.t 32) .none (.rd (.ld (.t 31))) (.wcons (.t 34) .none (.rd (.ld (.t 33))) (.px (.t 35) .none (.is 2 (.t 34) (.c (.int .i64 0))) (.px
  (.t 36) .none (.m (.ldn 2 (.t 35))) (.wcons (.t 37) .none (.bldF (ι.t 290) 2 1 [.t 36]) (.wcons (.t 38) .none (.app false (ι.t 290) 2 24 #[.string ⟨#[]⟩, .int .i64 0] (.t 32) (.t 37)) (.px (.t 39)
  .none (.fa 0 (.v 2)) (.wcons .no .none (.st (.t 39) (.t 38)) .done .wnil)) .wnil) .wnil))) .wnil) (.wcons (.t 34) .none (.rd (.ld (.t 33))) (.px (.t 35) .none (.is 2 (.t 34) (.c (.int .i64 0))) (.px
  (.t 36) .none (.m (.ldn 2 (.t 35))) (.wcons (.t 32) .none (.rd (.ld (.t 31))) (.wcons (.t 37) .none (.bldF (ι.t 290) 2 1 [.t 36]) (.wcons (.t 38) .none (.app false (ι.t 290) 2 24 #[.string ⟨#[]⟩, .int
  .i64 0] (.t 32) (.t 37)) (.px (.t 39) .none (.fa 0 (.v 2)) (.wcons .no .none (.st (.t 39) (.t 38)) .done .wnil)) .wnil) .wnil) (.wcons (.t 37) .none (.bldF (ι.t 290) 2 1 [.t 36]) (.wcons (.t 32) .none
  (.rd (.ld (.t 31))) (.wcons (.t 38) .none (.app false (ι.t 290) 2 24 #[.string ⟨#[]⟩, .int .i64 0] (.t 32) (.t 37)) (.px (.t 39) .none (.fa 0 (.v 2)) (.wcons .no .none (.st (.t 39) (.t 38)) .done
  .wnil)) .wnil) .wnil) .wnil)))) .wnil))))))))))
def c_sp2 (ι : Ids) : S :=
  (.seq (.reg [.p (.t 42) (.fa 0 (.v 2)), .p (.t 43) (.ld (.t 42)), .e (.t 44) (.call (ι.f 293) [.t 43]), .p (.t 45) (.fa 0 (.v 2)), .e .no (.st (.t 45) (.t 44))]) (.reg [.p (.t 46) (.fa 0 (.v 2)), .p
  (.t 47) (.ld (.t 46)), .p (.t 48) (.mv (.v 5)), .p (.t 49) (.ar .sub .i64 (.t 48) (.c (.int .i64 1))), .p (.t 50) (.fa 3 (.v 3)), .p (.t 51) (.ld (.t 50)), .p (.t 52) (.is 2 (.t 47) (.t 49)), .p (.t
  53) (.fa 0 (.t 52)), .e .no (.st (.t 53) (.t 51))]))
def c_sp3 (ι : Ids) : S :=
  (.seq (.reg [.p (.t 56) (.fa 0 (.v 2)), .p (.t 57) (.ld (.t 56)), .e (.t 58) (.call (ι.f 293) [.t 57]), .p (.t 59) (.fa 0 (.v 2)), .e .no (.st (.t 59) (.t 58))]) (.reg [.p (.t 60) (.fa 0 (.v 2)), .p
  (.t 61) (.ld (.t 60)), .p (.t 62) (.mv (.v 5)), .p (.t 63) (.ar .sub .i64 (.t 62) (.c (.int .i64 1))), .p (.t 64) (.fa 0 (.v 2)), .p (.t 65) (.ld (.t 64)), .p (.t 66) (.is 2 (.t 65) (.c (.int .i64
  0))), .p (.t 67) (.fa 0 (.t 66)), .p (.t 68) (.ld (.t 67)), .p (.t 69) (.is 2 (.t 61) (.t 63)), .p (.t 70) (.fa 0 (.t 69)), .e .no (.st (.t 70) (.t 68))]))
def c_sp4 (ι : Ids) : S :=
  (.seq (.reg [.p (.t 73) (.fa 0 (.v 2)), .p (.t 74) (.ld (.t 73)), .e (.t 75) (.call (ι.f 293) [.t 74]), .p (.t 76) (.fa 0 (.v 2)), .e .no (.st (.t 76) (.t 75))]) (.reg [.p (.t 77) (.fa 0 (.v 2)), .p
  (.t 78) (.ld (.t 77)), .p (.t 79) (.fa 1 (.v 3)), .p (.t 80) (.ld (.t 79)), .p (.t 81) (.is 2 (.t 78) (.c (.int .i64 0))), .p (.t 82) (.fa 1 (.t 81)), .e .no (.st (.t 82) (.t 80))]))
def c_sp5 (ι : Ids) : S :=
  (.dr (.px (.t 85) .none (.fa 1 (.v 2)) (.px (.t 88) .none (.m (.ldn 2 (.v 6))) (.wcons (.t 86) .none (.rd (.ld (.t 85))) (.wcons (.t 87) .none (.call (ι.f 204) [.t 86]) (.wcons (.t 89) .none (.bldF
  (ι.t 194) 2 1 [.t 88]) (.wcons (.t 90) .none (.app false (ι.t 194) 2 16 #[.int .i64 0, .int .i64 0] (.t 87) (.t 89)) (.px (.t 91) .none (.fa 1 (.v 2)) (.wcons .no .none (.st (.t 91) (.t 90)) .done
  .wnil)) .wnil) .wnil) (.wcons (.t 89) .none (.bldF (ι.t 194) 2 1 [.t 88]) (.wcons (.t 87) .none (.call (ι.f 204) [.t 86]) (.wcons (.t 90) .none (.app false (ι.t 194) 2 16 #[.int .i64 0, .int .i64 0]
  (.t 87) (.t 89)) (.px (.t 91) .none (.fa 1 (.v 2)) (.wcons .no .none (.st (.t 91) (.t 90)) .done .wnil)) .wnil) .wnil) .wnil)) (.wcons (.t 89) .none (.bldF (ι.t 194) 2 1 [.t 88]) (.wcons (.t 86) .none
  (.rd (.ld (.t 85))) (.wcons (.t 87) .none (.call (ι.f 204) [.t 86]) (.wcons (.t 90) .none (.app false (ι.t 194) 2 16 #[.int .i64 0, .int .i64 0] (.t 87) (.t 89)) (.px (.t 91) .none (.fa 1 (.v 2))
  (.wcons .no .none (.st (.t 91) (.t 90)) .done .wnil)) .wnil) .wnil) .wnil) .wnil)))))
def c_sp6 (ι : Ids) : S :=
  (.dr (.px (.t 94) .none (.fa 2 (.v 2)) (.px (.t 97) .none (.m (.ldn 2 (.v 6))) (.wcons (.t 95) .none (.rd (.ld (.t 94))) (.wcons (.t 96) .none (.call (ι.f 204) [.t 95]) (.wcons (.t 98) .none (.bldF
  (ι.t 194) 2 1 [.t 97]) (.wcons (.t 99) .none (.app false (ι.t 194) 2 16 #[.int .i64 0, .int .i64 0] (.t 96) (.t 98)) (.px (.t 100) .none (.fa 2 (.v 2)) (.wcons .no .none (.st (.t 100) (.t 99)) .done
  .wnil)) .wnil) .wnil) (.wcons (.t 98) .none (.bldF (ι.t 194) 2 1 [.t 97]) (.wcons (.t 96) .none (.call (ι.f 204) [.t 95]) (.wcons (.t 99) .none (.app false (ι.t 194) 2 16 #[.int .i64 0, .int .i64 0]
  (.t 96) (.t 98)) (.px (.t 100) .none (.fa 2 (.v 2)) (.wcons .no .none (.st (.t 100) (.t 99)) .done .wnil)) .wnil) .wnil) .wnil)) (.wcons (.t 98) .none (.bldF (ι.t 194) 2 1 [.t 97]) (.wcons (.t 95)
  .none (.rd (.ld (.t 94))) (.wcons (.t 96) .none (.call (ι.f 204) [.t 95]) (.wcons (.t 99) .none (.app false (ι.t 194) 2 16 #[.int .i64 0, .int .i64 0] (.t 96) (.t 98)) (.px (.t 100) .none (.fa 2 (.v
  2)) (.wcons .no .none (.st (.t 100) (.t 99)) .done .wnil)) .wnil) .wnil) .wnil) .wnil)))))
def c_sp7 (ι : Ids) : S :=
  (.dr (.px (.t 103) .none (.fa 3 (.v 2)) (.px (.t 106) .none (.m (.ldn 2 (.v 6))) (.wcons (.t 104) .none (.rd (.ld (.t 103))) (.wcons (.t 105) .none (.call (ι.f 204) [.t 104]) (.wcons (.t 107) .none
  (.bldF (ι.t 194) 2 1 [.t 106]) (.wcons (.t 108) .none (.app false (ι.t 194) 2 16 #[.int .i64 0, .int .i64 0] (.t 105) (.t 107)) (.px (.t 109) .none (.fa 3 (.v 2)) (.wcons .no .none (.st (.t 109) (.t
  108)) .done .wnil)) .wnil) .wnil) (.wcons (.t 107) .none (.bldF (ι.t 194) 2 1 [.t 106]) (.wcons (.t 105) .none (.call (ι.f 204) [.t 104]) (.wcons (.t 108) .none (.app false (ι.t 194) 2 16 #[.int .i64
  0, .int .i64 0] (.t 105) (.t 107)) (.px (.t 109) .none (.fa 3 (.v 2)) (.wcons .no .none (.st (.t 109) (.t 108)) .done .wnil)) .wnil) .wnil) .wnil)) (.wcons (.t 107) .none (.bldF (ι.t 194) 2 1 [.t
  106]) (.wcons (.t 104) .none (.rd (.ld (.t 103))) (.wcons (.t 105) .none (.call (ι.f 204) [.t 104]) (.wcons (.t 108) .none (.app false (ι.t 194) 2 16 #[.int .i64 0, .int .i64 0] (.t 105) (.t 107))
  (.px (.t 109) .none (.fa 3 (.v 2)) (.wcons .no .none (.st (.t 109) (.t 108)) .done .wnil)) .wnil) .wnil) .wnil) .wnil)))))
def c_sp8 (ι : Ids) : S :=
  (.dr (.px (.t 112) .none (.fa 4 (.v 2)) (.px (.t 115) .none (.fa 1 (.v 3)) (.px (.t 116) .none (.ld (.t 115)) (.px (.t 117) .none (.fa 2 (.v 3)) (.px (.t 118) .none (.ld (.t 117)) (.px (.t 119) .none
  (.bt .and .i64 (.t 118) (.c (.int .i64 1023))) (.px (.t 120) .none (.ii .u64 (.t 119)) (.px (.t 121) .none (.m (.bld #[.int .i64 0, .int .u64 0] [(0, (1, .t 116)), (1, (1, .t 120))])) (.wcons (.t 113)
  .none (.rd (.ld (.t 112))) (.wcons (.t 114) .none (.call (ι.f 294) [.t 113]) (.wcons (.t 122) .none (.bldF (ι.t 291) 2 1 [.t 121]) (.wcons (.t 123) .none (.app false (ι.t 291) 2 16 #[.int .i64 0, .int
  .u64 0] (.t 114) (.t 122)) (.px (.t 124) .none (.fa 4 (.v 2)) (.wcons .no .none (.st (.t 124) (.t 123)) .done .wnil)) .wnil) .wnil) (.wcons (.t 122) .none (.bldF (ι.t 291) 2 1 [.t 121]) (.wcons (.t
  114) .none (.call (ι.f 294) [.t 113]) (.wcons (.t 123) .none (.app false (ι.t 291) 2 16 #[.int .i64 0, .int .u64 0] (.t 114) (.t 122)) (.px (.t 124) .none (.fa 4 (.v 2)) (.wcons .no .none (.st (.t
  124) (.t 123)) .done .wnil)) .wnil) .wnil) .wnil)) (.wcons (.t 122) .none (.bldF (ι.t 291) 2 1 [.t 121]) (.wcons (.t 113) .none (.rd (.ld (.t 112))) (.wcons (.t 114) .none (.call (ι.f 294) [.t 113])
  (.wcons (.t 123) .none (.app false (ι.t 291) 2 16 #[.int .i64 0, .int .u64 0] (.t 114) (.t 122)) (.px (.t 124) .none (.fa 4 (.v 2)) (.wcons .no .none (.st (.t 124) (.t 123)) .done .wnil)) .wnil)
  .wnil) .wnil) .wnil)))))))))))
def c_sp9 (ι : Ids) : S :=
  (.reg [.p (.t 127) (.fa 1 (.v 2)), .p (.t 128) (.ld (.t 127)), .e (.t 129) (.call (ι.f 204) [.t 128]), .p (.t 130) (.mv (.v 5)), .p (.t 131) (.ar .sub .i64 (.t 130) (.c (.int .i64 1))), .p (.t 132)
  (.m (.bld #[.int .i64 0, .int .i64 0] [(0, (1, .t 131)), (1, (1, .c (.int .i64 0)))])), .p (.t 133) (.mv (.v 5)), .p (.t 134) (.ar .sub .i64 (.t 133) (.c (.int .i64 1))), .p (.t 135) (.m (.bld #[.int
  .i64 0, .int .i64 0] [(0, (1, .c (.int .i64 0))), (1, (1, .t 134))])), .e (.t 136) (.bldF (ι.t 194) 2 2 [.t 132, .t 135]), .e (.t 137) (.app false (ι.t 194) 2 16 #[.int .i64 0, .int .i64 0] (.t 129)
  (.t 136)), .p (.t 138) (.fa 1 (.v 2)), .e .no (.st (.t 138) (.t 137))])
def c_sp10 (ι : Ids) : S :=
  (.blk 3 (.loop (.seq (.seq (.reg [.p (.t 141) (.fa 2 (.v 2)), .p (.t 142) (.ld (.t 141)), .p (.t 143) (.m (.lenl (.t 142))), .p (.v 144) (.cm .leq .i64 (.t 143) (.c (.int .i64 20)))]) (.ite (.v 144)
  .skip (.exit 3))) (.blk 4 (.reg [.p (.t 145) (.fa 2 (.v 2)), .p (.t 146) (.ld (.t 145)), .e (.t 147) (.call (ι.f 204) [.t 146]), .p (.t 148) (.mv (.v 5)), .p (.t 149) (.ar .sub .i64 (.t 148) (.c (.int
  .i64 1))), .p (.t 150) (.m (.bld #[.int .i64 0, .int .i64 0] [(0, (1, .c (.int .i64 0))), (1, (1, .t 149))])), .e (.t 151) (.bldF (ι.t 194) 2 1 [.t 150]), .e (.t 152) (.app false (ι.t 194) 2 16 #[.int
  .i64 0, .int .i64 0] (.t 147) (.t 151)), .p (.t 153) (.fa 2 (.v 2)), .e .no (.st (.t 153) (.t 152))])))))
def c_spS (ι : Ids) : S :=
  (.seq (.reg [.p (.t 19) (.cm .eql .u8 (.v 17) (.c (.int .u8 0))), .p (.v 18) (.mv (.t 19))]) (.ite (.v 18) (c_sp0 ι) (.seq (.reg [.p (.t 22) (.cm .eql .u8 (.v 17) (.c (.int .u8 1))), .p (.v 21) (.mv
  (.t 22))]) (.ite (.v 21) (c_sp1 ι) (.seq (.reg [.p (.t 41) (.cm .eql .u8 (.v 17) (.c (.int .u8 2))), .p (.v 40) (.mv (.t 41))]) (.ite (.v 40) (c_sp2 ι) (.seq (.reg [.p (.t 55) (.cm .eql .u8 (.v 17)
  (.c (.int .u8 3))), .p (.v 54) (.mv (.t 55))]) (.ite (.v 54) (c_sp3 ι) (.seq (.reg [.p (.t 72) (.cm .eql .u8 (.v 17) (.c (.int .u8 4))), .p (.v 71) (.mv (.t 72))]) (.ite (.v 71) (c_sp4 ι) (.seq (.reg
  [.p (.t 84) (.cm .eql .u8 (.v 17) (.c (.int .u8 5))), .p (.v 83) (.mv (.t 84))]) (.ite (.v 83) (c_sp5 ι) (.seq (.reg [.p (.t 93) (.cm .eql .u8 (.v 17) (.c (.int .u8 6))), .p (.v 92) (.mv (.t 93))])
  (.ite (.v 92) (c_sp6 ι) (.seq (.reg [.p (.t 102) (.cm .eql .u8 (.v 17) (.c (.int .u8 7))), .p (.v 101) (.mv (.t 102))]) (.ite (.v 101) (c_sp7 ι) (.seq (.reg [.p (.t 111) (.cm .eql .u8 (.v 17) (.c
  (.int .u8 8))), .p (.v 110) (.mv (.t 111))]) (.ite (.v 110) (c_sp8 ι) (.seq (.reg [.p (.t 126) (.cm .eql .u8 (.v 17) (.c (.int .u8 9))), .p (.v 125) (.mv (.t 126))]) (.ite (.v 125) (c_sp9 ι) (.seq
  (.reg [.p (.t 140) (.cm .eql .u8 (.v 17) (.c (.int .u8 10))), .p (.v 139) (.mv (.t 140))]) (.ite (.v 139) (c_sp10 ι) .skip))))))))))))))))))))))
def c_spoil (ι : Ids) : S :=
  .seq (.reg [.e (.v 2) (.box (ι.t 289) (.v 0)), .e (.v 3) (.box (ι.t 327) (.v 1)), .e (.v 4) (.new (ι.t 289) #[.slice .none 0 0, .slice .none 0 0, .slice .none 0 0, .slice .none 0 0, .slice .none 0
  0])]) (.seq (.reg [.p (.t 7) (.fa 0 (.v 2)), .p (.t 8) (.ld (.t 7)), .p (.t 9) (.m (.lenl (.t 8))), .p (.v 5) (.mv (.t 9))]) (.seq (.reg [.p (.t 10) (.fa 1 (.v 3)), .p (.t 11) (.ld (.t 10)), .p (.t
  12) (.fa 2 (.v 3)), .p (.t 13) (.ld (.t 12)), .p (.t 14) (.m (.bld #[.int .i64 0, .int .i64 0] [(0, (1, .t 11)), (1, (1, .t 13))])), .e (.v 6) (.new (ι.t 194) #[.int .i64 0, .int .i64 0]), .e .no
  (.stn 2 (.v 6) (.t 14))]) (.seq (.seq (.reg [.p (.t 15) (.fa 0 (.v 3)), .p (.t 16) (.ld (.t 15)), .p (.v 17) (.dv .rem .u8 (.t 16) (.c (.int .u8 12)))]) (.blk 0 (c_spS ι))) (.seq (.reg [.p (.t 154)
  (.m (.ldn 5 (.v 2))), .e .no (.stn 5 (.v 4) (.t 154))]) .ret))))
def r_spoil : List RV := [.cn 4 5]
structure SpN where
  d : UInt8
  a : Int
  b : Int
  nm : List UInt8
def encX (x : SpN) : List Value := [.int .u8 x.d.toNat, .int .i64 x.a, .int .i64 x.b, sV x.nm]
structure SmK (k : Nat) (F : FlN) : Prop where
  st : F.st.length ≤ k
  be : F.be.length ≤ k
  di : F.di.length ≤ k
  sa : F.sa.length ≤ k
  mo : F.mo.length ≤ k
def SpK (k : Nat) (f : Fr) (A : Hp) (b2 : Nat) (cs0 : List Value) (Qb : Ex → Fr → Hp → Prop) : Prop := ∀ f' A' cs F', f' 2 = f 2 → f' 4 = f 4 → cs.length = 5 → Bl A' b2 cs → RefFl A' (.agg cs.toArray) F' → SmK (k + 30) F' → (∀ c ∈ cs, ∀ q, slB c q → (∃ c0 ∈ cs0, slB c0 q) ∨ A.size ≤ q) → Keep (fun q => q = b2 ∨ A.size ≤ q) A A' → Qb .n f' A'
structure SpI (k : Nat) (f : Fr) (A : Hp) (b2 b3 b6 : Nat) (F : FlN) (x : SpN) (s b d a m : Value) : Prop where
  h2 : f 2 = .pointer (some ⟨b2, 0, none⟩)
  h3 : f 3 = .pointer (some ⟨b3, 0, none⟩)
  h5 : f 5 = .int .i64 (F.st.length : Int)
  h6 : f 6 = .pointer (some ⟨b6, 0, none⟩)
  B2 : Bl A b2 [s, b, d, a, m]
  B3 : Bl A b3 (encX x)
  B6 : Bl A b6 [.int .i64 x.a, .int .i64 x.b]
  S : SlE encS 2 A s F.st
  Pb : SlP A b F.be
  Pd : SlP A d F.di
  Pa : SlP A a F.sa
  M : SlE encM 2 A m F.mo
  n3 : b3 ≠ b2
  n6 : b6 ≠ b2
  sm : SmK k F
  k1 : k ≤ 1000
  ne : F.st ≠ []
  o : ∀ c ∈ [s, b, d, a, m], ∀ q, slB c q → q ≠ b2
theorem SpI.w {k : Nat} {f : Fr} {A : Hp} {b2 b3 b6 : Nat} {F : FlN} {x : SpN} {s b d a m : Value} (h : SpI k f A b2 b3 b6 F x s b d a m) : ∀ c ∈ [s, b, d, a, m], ∀ q, slB c q → ¬ (q = b2 ∨ A.size ≤ q) := by
  intro c hc q hq
  have hne := h.o c hc q hq
  have : q < A.size := by
    simp only [List.mem_cons, List.not_mem_nil, or_false] at hc
    rcases hc with rfl | rfl | rfl | rfl | rfl
    · exact h.S.old hq
    · exact h.Pb.old hq
    · exact h.Pd.old hq
    · exact h.Pa.old hq
    · exact h.M.old hq
  omega
theorem SpI.old {k : Nat} {f : Fr} {A : Hp} {b2 b3 b6 : Nat} {F : FlN} {x : SpN} {s b d a m : Value} (h : SpI k f A b2 b3 b6 F x s b d a m) {cs : List Value} {v : Value} (hcs : ∀ c ∈ cs, c = v ∨ c ∈ [s, b, d, a, m]) (hv : ∀ q, slB v q → (∃ c0 ∈ [s, b, d, a, m], slB c0 q) ∨ A.size ≤ q) : ∀ c ∈ cs, ∀ q, slB c q → (∃ c0 ∈ [s, b, d, a, m], slB c0 q) ∨ A.size ≤ q := fun c hc q hq => by
  rcases hcs c hc with rfl | h'
  · exact hv q hq
  · exact .inl ⟨c, h', hq⟩
theorem SpI.fin_st {k : Nat} {f : Fr} {A : Hp} {b2 b3 b6 : Nat} {F : FlN} {x : SpN} {s b d a m : Value} {Qb : Ex → Fr → Hp → Prop} (h : SpI k f A b2 b3 b6 F x s b d a m) (K : SpK k f A b2 [s, b, d, a, m] Qb) {f' : Fr} {A' : Hp} {v' : Value} {l} (h2 : f' 2 = f 2) (h4 : f' 4 = f 4) (hl : l.length ≤ k + 30) (O : SlE encS 2 A' v' l) (o : ∀ q, slB v' q → (∃ c0 ∈ [s, b, d, a, m], slB c0 q) ∨ A.size ≤ q) (B' : Bl A' b2 [v', b, d, a, m]) (K' : Keep (fun q => q = b2 ∨ A.size ≤ q) A A') : Qb .n f' A' := by
  have w := h.w
  have sm := h.sm
  have w1 := w s (by simp)
  have w2 := w b (by simp)
  have w3 := w d (by simp)
  have w4 := w a (by simp)
  have w5 := w m (by simp)
  have S := h.S.keep K' w1
  have Pb := h.Pb.keep K' w2
  have Pd := h.Pd.keep K' w3
  have Pa := h.Pa.keep K' w4
  have M := h.M.keep K' w5
  have S := O
  refine K f' A' _ { F with st := l } h2 h4 rfl B' ⟨_, _, _, _, _, rfl, S, Pb, Pd, Pa, M⟩ ?_ (h.old (v := v') (by simp) o) K'
  constructor <;> first | exact hl | exact Nat.le_trans sm.st (by omega) | exact Nat.le_trans sm.be (by omega) | exact Nat.le_trans sm.di (by omega) | exact Nat.le_trans sm.sa (by omega) | exact Nat.le_trans sm.mo (by omega)
theorem SpI.fin_be {k : Nat} {f : Fr} {A : Hp} {b2 b3 b6 : Nat} {F : FlN} {x : SpN} {s b d a m : Value} {Qb : Ex → Fr → Hp → Prop} (h : SpI k f A b2 b3 b6 F x s b d a m) (K : SpK k f A b2 [s, b, d, a, m] Qb) {f' : Fr} {A' : Hp} {v' : Value} {l} (h2 : f' 2 = f 2) (h4 : f' 4 = f 4) (hl : l.length ≤ k + 30) (O : SlE pE 2 A' v' l) (o : ∀ q, slB v' q → (∃ c0 ∈ [s, b, d, a, m], slB c0 q) ∨ A.size ≤ q) (B' : Bl A' b2 [s, v', d, a, m]) (K' : Keep (fun q => q = b2 ∨ A.size ≤ q) A A') : Qb .n f' A' := by
  have w := h.w
  have sm := h.sm
  have w1 := w s (by simp)
  have w2 := w b (by simp)
  have w3 := w d (by simp)
  have w4 := w a (by simp)
  have w5 := w m (by simp)
  have S := h.S.keep K' w1
  have Pb := h.Pb.keep K' w2
  have Pd := h.Pd.keep K' w3
  have Pa := h.Pa.keep K' w4
  have M := h.M.keep K' w5
  have Pb := O
  refine K f' A' _ { F with be := l } h2 h4 rfl B' ⟨_, _, _, _, _, rfl, S, Pb, Pd, Pa, M⟩ ?_ (h.old (v := v') (by simp) o) K'
  constructor <;> first | exact hl | exact Nat.le_trans sm.st (by omega) | exact Nat.le_trans sm.be (by omega) | exact Nat.le_trans sm.di (by omega) | exact Nat.le_trans sm.sa (by omega) | exact Nat.le_trans sm.mo (by omega)
theorem SpI.fin_di {k : Nat} {f : Fr} {A : Hp} {b2 b3 b6 : Nat} {F : FlN} {x : SpN} {s b d a m : Value} {Qb : Ex → Fr → Hp → Prop} (h : SpI k f A b2 b3 b6 F x s b d a m) (K : SpK k f A b2 [s, b, d, a, m] Qb) {f' : Fr} {A' : Hp} {v' : Value} {l} (h2 : f' 2 = f 2) (h4 : f' 4 = f 4) (hl : l.length ≤ k + 30) (O : SlE pE 2 A' v' l) (o : ∀ q, slB v' q → (∃ c0 ∈ [s, b, d, a, m], slB c0 q) ∨ A.size ≤ q) (B' : Bl A' b2 [s, b, v', a, m]) (K' : Keep (fun q => q = b2 ∨ A.size ≤ q) A A') : Qb .n f' A' := by
  have w := h.w
  have sm := h.sm
  have w1 := w s (by simp)
  have w2 := w b (by simp)
  have w3 := w d (by simp)
  have w4 := w a (by simp)
  have w5 := w m (by simp)
  have S := h.S.keep K' w1
  have Pb := h.Pb.keep K' w2
  have Pd := h.Pd.keep K' w3
  have Pa := h.Pa.keep K' w4
  have M := h.M.keep K' w5
  have Pd := O
  refine K f' A' _ { F with di := l } h2 h4 rfl B' ⟨_, _, _, _, _, rfl, S, Pb, Pd, Pa, M⟩ ?_ (h.old (v := v') (by simp) o) K'
  constructor <;> first | exact hl | exact Nat.le_trans sm.st (by omega) | exact Nat.le_trans sm.be (by omega) | exact Nat.le_trans sm.di (by omega) | exact Nat.le_trans sm.sa (by omega) | exact Nat.le_trans sm.mo (by omega)
theorem SpI.fin_sa {k : Nat} {f : Fr} {A : Hp} {b2 b3 b6 : Nat} {F : FlN} {x : SpN} {s b d a m : Value} {Qb : Ex → Fr → Hp → Prop} (h : SpI k f A b2 b3 b6 F x s b d a m) (K : SpK k f A b2 [s, b, d, a, m] Qb) {f' : Fr} {A' : Hp} {v' : Value} {l} (h2 : f' 2 = f 2) (h4 : f' 4 = f 4) (hl : l.length ≤ k + 30) (O : SlE pE 2 A' v' l) (o : ∀ q, slB v' q → (∃ c0 ∈ [s, b, d, a, m], slB c0 q) ∨ A.size ≤ q) (B' : Bl A' b2 [s, b, d, v', m]) (K' : Keep (fun q => q = b2 ∨ A.size ≤ q) A A') : Qb .n f' A' := by
  have w := h.w
  have sm := h.sm
  have w1 := w s (by simp)
  have w2 := w b (by simp)
  have w3 := w d (by simp)
  have w4 := w a (by simp)
  have w5 := w m (by simp)
  have S := h.S.keep K' w1
  have Pb := h.Pb.keep K' w2
  have Pd := h.Pd.keep K' w3
  have Pa := h.Pa.keep K' w4
  have M := h.M.keep K' w5
  have Pa := O
  refine K f' A' _ { F with sa := l } h2 h4 rfl B' ⟨_, _, _, _, _, rfl, S, Pb, Pd, Pa, M⟩ ?_ (h.old (v := v') (by simp) o) K'
  constructor <;> first | exact hl | exact Nat.le_trans sm.st (by omega) | exact Nat.le_trans sm.be (by omega) | exact Nat.le_trans sm.di (by omega) | exact Nat.le_trans sm.sa (by omega) | exact Nat.le_trans sm.mo (by omega)
theorem SpI.fin_mo {k : Nat} {f : Fr} {A : Hp} {b2 b3 b6 : Nat} {F : FlN} {x : SpN} {s b d a m : Value} {Qb : Ex → Fr → Hp → Prop} (h : SpI k f A b2 b3 b6 F x s b d a m) (K : SpK k f A b2 [s, b, d, a, m] Qb) {f' : Fr} {A' : Hp} {v' : Value} {l} (h2 : f' 2 = f 2) (h4 : f' 4 = f 4) (hl : l.length ≤ k + 30) (O : SlE encM 2 A' v' l) (o : ∀ q, slB v' q → (∃ c0 ∈ [s, b, d, a, m], slB c0 q) ∨ A.size ≤ q) (B' : Bl A' b2 [s, b, d, a, v']) (K' : Keep (fun q => q = b2 ∨ A.size ≤ q) A A') : Qb .n f' A' := by
  have w := h.w
  have sm := h.sm
  have w1 := w s (by simp)
  have w2 := w b (by simp)
  have w3 := w d (by simp)
  have w4 := w a (by simp)
  have w5 := w m (by simp)
  have S := h.S.keep K' w1
  have Pb := h.Pb.keep K' w2
  have Pd := h.Pd.keep K' w3
  have Pa := h.Pa.keep K' w4
  have M := h.M.keep K' w5
  have M := O
  refine K f' A' _ { F with mo := l } h2 h4 rfl B' ⟨_, _, _, _, _, rfl, S, Pb, Pd, Pa, M⟩ ?_ (h.old (v := v') (by simp) o) K'
  constructor <;> first | exact hl | exact Nat.le_trans sm.st (by omega) | exact Nat.le_trans sm.be (by omega) | exact Nat.le_trans sm.di (by omega) | exact Nat.le_trans sm.sa (by omega) | exact Nat.le_trans sm.mo (by omega)
theorem sp0_ok {P : Program} {ι : Ids} {k : Nat} {f : Fr} {A : Hp} {b2 b3 b6 : Nat} {F : FlN} {x : SpN} {s b d a m : Value} {Qb : Ex → Fr → Hp → Prop} (h : SpI k f A b2 b3 b6 F x s b d a m) (K : SpK k f A b2 [s, b, d, a, m] Qb) : vc P (c_sp0 ι) Qb f A := by
  unfold c_sp0
  have t := h.B2.okSt (o := 0) (by simp)
  simp -implicitDefEqProofs only [go_sem, zS, ↓reduceIte, Nat.reduceEqDiff, Nat.reduceAdd, Nat.reduceMul, reduceCtorEq, kont_eq, zU, zV, Int.reduceBEq, Int.reduceBNe, Int.reduceLE, Int.reduceLT, Nat.reduceLeDiff, Nat.reduceLT, zF, h.h2, t]
  exact h.fin_st K rfl rfl (by simp) (SlE.nil _ _ _) (fun q hq => by simp [slB] at hq) (h.B2.setc 0 _) ((Keep.refl _ _).setc (p := ⟨b2, 0, none⟩) _ (.inl (.inl rfl)))
theorem sp5_ok {P : Program} {ι : Ids} (hc : ClnSpec pE P (ι.f 204)) {k : Nat} {f : Fr} {A : Hp} {b2 b3 b6 : Nat} {F : FlN} {x : SpN} {s b d a m : Value} {Qb : Ex → Fr → Hp → Prop} (h : SpI k f A b2 b3 b6 F x s b d a m) (K : SpK k f A b2 [s, b, d, a, m] Qb) : vc P (c_sp5 ι) Qb f A := by
  unfold c_sp5
  refine vc_drk (fun q => q = b2 ∨ A.size ≤ q) ?_
  have hb2 := h.B2.lt
  have hb6 := h.B6.lt
  have hk := h.sm.be
  have hk1 := h.k1
  have c0 : ∀ {A' : Hp}, Keep (fun _ => False) A A' → cell A' ⟨b2, 1, none⟩ = some b := fun K => by rw [(K.bl h.B2 (by simp)).cell]; rfl
  have n6 : ¬ (b6 = b2 ∨ A.size ≤ b6) := by have := h.n6; omega
  have fin : ∀ (A2 : Hp) (bb : Nat) (e : Env) (v : Value) (t p : Nat) (hap : (p == t) = false), Keep (fun _ => False) A A2 → OwE pE 2 A2 v F.be → (∀ q, ownB v q → A.size ≤ q) → Bl A2 bb [.int .i64 x.a, .int .i64 x.b] → AppC false (ι.t 194) 2 16 #[.int .i64 0, .int .i64 0] v (.slice (some ⟨bb, 0, none⟩) 1 1) A2 (kontK P (fun q => q = b2 ∨ A.size ≤ q) A2 (.t t) (.px (.t p) none (.fa 1 (.v 2)) (.wcons .no none (.st (.t p) (.t t)) .done .wnil)) e f (Qb .n)) := fun A2 bb e v t p hap K2 O o B2 => by
    refine app_field pE_len pE_one O o K2.size (SlE.bl B2 (l := [(x.a, x.b)]) rfl (by simp) (by simp)) rfl (by omega) (by simp; omega) (K2.bl h.B2 (by simp)) hb2 (by simp) h.h2 hap fun v' A' O' o' B' K' => ?_
    exact h.fin_be K rfl rfl (by simp; omega) O'.sl (fun q hq => .inr (o' q (O'.slB hq))) B' (K2.any.trans K')
  have new : ∀ (A1 : Hp) (T : TypeId), Keep (fun _ => False) A1 (A1.push (.cells #[.int .i64 x.a, .int .i64 x.b] T)) ∧ Bl (A1.push (.cells #[.int .i64 x.a, .int .i64 x.b] T)) A1.size [.int .i64 x.a, .int .i64 x.b] := fun A1 T => ⟨(Keep.refl _ _).push _, Bl.new' _ _ _⟩
  have cl : ∀ (A1 : Hp) (Kp : Value → Hp → Prop), Keep (fun _ => False) A A1 → (∀ v A2, OwE pE 2 A2 v F.be → (∀ q, ownB v q → A.size ≤ q) → Keep (fun _ => False) A1 A2 → Kp v A2) → CallsM P (ι.f 204) #[b] A1 Kp := fun A1 Kp K1 hK => (hc F.be b A1 (h.Pb.keep0 K1) (by omega)).mono fun v A2 ⟨O, o, K2⟩ => hK v A2 O (fun q hq => by have := o q hq; have := K1.size; omega) K2
  have s1 := (new A (ι.t 194)).1
  simp -implicitDefEqProofs only [go_sem, zS, ↓reduceIte, Nat.reduceEqDiff, Nat.reduceAdd, Nat.reduceMul, reduceCtorEq, kont_eq, zU, zV, Int.reduceBEq, Int.reduceBNe, Int.reduceLE, Int.reduceLT, Nat.reduceLeDiff, Nat.reduceLT, zF, h.h2, h.h6, h.B6.ldNO 2 rfl, c0 (Keep.refl _ A), c0 s1]
  have w1 := s1.any (W := fun q => q = b2 ∨ A.size ≤ q)
  refine ⟨n6, ⟨Keep.refl _ _, cl A _ (Keep.refl _ _) fun v A2 O o K2 => ?_, w1, cl _ _ s1 fun v A2 O o K2 => ?_⟩, w1, Keep.refl _ _, cl _ _ s1 fun v A2 O o K2 => ?_⟩
  · have N2 := new A2 (ι.t 194)
    simp -implicitDefEqProofs only [go_sem, zS, ↓reduceIte, Nat.reduceEqDiff, Nat.reduceAdd, Nat.reduceMul, reduceCtorEq, kont_eq, zU, zV, Int.reduceBEq, Int.reduceBNe, Int.reduceLE, Int.reduceLT, Nat.reduceLeDiff, Nat.reduceLT, zF]
    exact ⟨K2.any, N2.1.any, fin _ _ _ v _ _ rfl (K2.trans N2.1) (O.keep N2.1 (by simp)) o N2.2⟩
  · simp -implicitDefEqProofs only [go_sem, zS, ↓reduceIte, Nat.reduceEqDiff, Nat.reduceAdd, Nat.reduceMul, reduceCtorEq, kont_eq, zU, zV, Int.reduceBEq, Int.reduceBNe, Int.reduceLE, Int.reduceLT, Nat.reduceLeDiff, Nat.reduceLT, zF]
    exact ⟨K2.any, fin _ _ _ v _ _ rfl (s1.trans K2) O o (K2.bl (new A (ι.t 194)).2 (by simp))⟩
  · simp -implicitDefEqProofs only [go_sem, zS, ↓reduceIte, Nat.reduceEqDiff, Nat.reduceAdd, Nat.reduceMul, reduceCtorEq, kont_eq, zU, zV, Int.reduceBEq, Int.reduceBNe, Int.reduceLE, Int.reduceLT, Nat.reduceLeDiff, Nat.reduceLT, zF]
    exact ⟨K2.any, fin _ _ _ v _ _ rfl (s1.trans K2) O o (K2.bl (new A (ι.t 194)).2 (by simp))⟩
theorem sp6_ok {P : Program} {ι : Ids} (hc : ClnSpec pE P (ι.f 204)) {k : Nat} {f : Fr} {A : Hp} {b2 b3 b6 : Nat} {F : FlN} {x : SpN} {s b d a m : Value} {Qb : Ex → Fr → Hp → Prop} (h : SpI k f A b2 b3 b6 F x s b d a m) (K : SpK k f A b2 [s, b, d, a, m] Qb) : vc P (c_sp6 ι) Qb f A := by
  unfold c_sp6
  refine vc_drk (fun q => q = b2 ∨ A.size ≤ q) ?_
  have hb2 := h.B2.lt
  have hb6 := h.B6.lt
  have hk := h.sm.di
  have hk1 := h.k1
  have c0 : ∀ {A' : Hp}, Keep (fun _ => False) A A' → cell A' ⟨b2, 2, none⟩ = some d := fun K => by rw [(K.bl h.B2 (by simp)).cell]; rfl
  have n6 : ¬ (b6 = b2 ∨ A.size ≤ b6) := by have := h.n6; omega
  have fin : ∀ (A2 : Hp) (bb : Nat) (e : Env) (v : Value) (t p : Nat) (hap : (p == t) = false), Keep (fun _ => False) A A2 → OwE pE 2 A2 v F.di → (∀ q, ownB v q → A.size ≤ q) → Bl A2 bb [.int .i64 x.a, .int .i64 x.b] → AppC false (ι.t 194) 2 16 #[.int .i64 0, .int .i64 0] v (.slice (some ⟨bb, 0, none⟩) 1 1) A2 (kontK P (fun q => q = b2 ∨ A.size ≤ q) A2 (.t t) (.px (.t p) none (.fa 2 (.v 2)) (.wcons .no none (.st (.t p) (.t t)) .done .wnil)) e f (Qb .n)) := fun A2 bb e v t p hap K2 O o B2 => by
    refine app_field pE_len pE_one O o K2.size (SlE.bl B2 (l := [(x.a, x.b)]) rfl (by simp) (by simp)) rfl (by omega) (by simp; omega) (K2.bl h.B2 (by simp)) hb2 (by simp) h.h2 hap fun v' A' O' o' B' K' => ?_
    exact h.fin_di K rfl rfl (by simp; omega) O'.sl (fun q hq => .inr (o' q (O'.slB hq))) B' (K2.any.trans K')
  have new : ∀ (A1 : Hp) (T : TypeId), Keep (fun _ => False) A1 (A1.push (.cells #[.int .i64 x.a, .int .i64 x.b] T)) ∧ Bl (A1.push (.cells #[.int .i64 x.a, .int .i64 x.b] T)) A1.size [.int .i64 x.a, .int .i64 x.b] := fun A1 T => ⟨(Keep.refl _ _).push _, Bl.new' _ _ _⟩
  have cl : ∀ (A1 : Hp) (Kp : Value → Hp → Prop), Keep (fun _ => False) A A1 → (∀ v A2, OwE pE 2 A2 v F.di → (∀ q, ownB v q → A.size ≤ q) → Keep (fun _ => False) A1 A2 → Kp v A2) → CallsM P (ι.f 204) #[d] A1 Kp := fun A1 Kp K1 hK => (hc F.di d A1 (h.Pd.keep0 K1) (by omega)).mono fun v A2 ⟨O, o, K2⟩ => hK v A2 O (fun q hq => by have := o q hq; have := K1.size; omega) K2
  have s1 := (new A (ι.t 194)).1
  simp -implicitDefEqProofs only [go_sem, zS, ↓reduceIte, Nat.reduceEqDiff, Nat.reduceAdd, Nat.reduceMul, reduceCtorEq, kont_eq, zU, zV, Int.reduceBEq, Int.reduceBNe, Int.reduceLE, Int.reduceLT, Nat.reduceLeDiff, Nat.reduceLT, zF, h.h2, h.h6, h.B6.ldNO 2 rfl, c0 (Keep.refl _ A), c0 s1]
  have w1 := s1.any (W := fun q => q = b2 ∨ A.size ≤ q)
  refine ⟨n6, ⟨Keep.refl _ _, cl A _ (Keep.refl _ _) fun v A2 O o K2 => ?_, w1, cl _ _ s1 fun v A2 O o K2 => ?_⟩, w1, Keep.refl _ _, cl _ _ s1 fun v A2 O o K2 => ?_⟩
  · have N2 := new A2 (ι.t 194)
    simp -implicitDefEqProofs only [go_sem, zS, ↓reduceIte, Nat.reduceEqDiff, Nat.reduceAdd, Nat.reduceMul, reduceCtorEq, kont_eq, zU, zV, Int.reduceBEq, Int.reduceBNe, Int.reduceLE, Int.reduceLT, Nat.reduceLeDiff, Nat.reduceLT, zF]
    exact ⟨K2.any, N2.1.any, fin _ _ _ v _ _ rfl (K2.trans N2.1) (O.keep N2.1 (by simp)) o N2.2⟩
  · simp -implicitDefEqProofs only [go_sem, zS, ↓reduceIte, Nat.reduceEqDiff, Nat.reduceAdd, Nat.reduceMul, reduceCtorEq, kont_eq, zU, zV, Int.reduceBEq, Int.reduceBNe, Int.reduceLE, Int.reduceLT, Nat.reduceLeDiff, Nat.reduceLT, zF]
    exact ⟨K2.any, fin _ _ _ v _ _ rfl (s1.trans K2) O o (K2.bl (new A (ι.t 194)).2 (by simp))⟩
  · simp -implicitDefEqProofs only [go_sem, zS, ↓reduceIte, Nat.reduceEqDiff, Nat.reduceAdd, Nat.reduceMul, reduceCtorEq, kont_eq, zU, zV, Int.reduceBEq, Int.reduceBNe, Int.reduceLE, Int.reduceLT, Nat.reduceLeDiff, Nat.reduceLT, zF]
    exact ⟨K2.any, fin _ _ _ v _ _ rfl (s1.trans K2) O o (K2.bl (new A (ι.t 194)).2 (by simp))⟩
theorem sp7_ok {P : Program} {ι : Ids} (hc : ClnSpec pE P (ι.f 204)) {k : Nat} {f : Fr} {A : Hp} {b2 b3 b6 : Nat} {F : FlN} {x : SpN} {s b d a m : Value} {Qb : Ex → Fr → Hp → Prop} (h : SpI k f A b2 b3 b6 F x s b d a m) (K : SpK k f A b2 [s, b, d, a, m] Qb) : vc P (c_sp7 ι) Qb f A := by
  unfold c_sp7
  refine vc_drk (fun q => q = b2 ∨ A.size ≤ q) ?_
  have hb2 := h.B2.lt
  have hb6 := h.B6.lt
  have hk := h.sm.sa
  have hk1 := h.k1
  have c0 : ∀ {A' : Hp}, Keep (fun _ => False) A A' → cell A' ⟨b2, 3, none⟩ = some a := fun K => by rw [(K.bl h.B2 (by simp)).cell]; rfl
  have n6 : ¬ (b6 = b2 ∨ A.size ≤ b6) := by have := h.n6; omega
  have fin : ∀ (A2 : Hp) (bb : Nat) (e : Env) (v : Value) (t p : Nat) (hap : (p == t) = false), Keep (fun _ => False) A A2 → OwE pE 2 A2 v F.sa → (∀ q, ownB v q → A.size ≤ q) → Bl A2 bb [.int .i64 x.a, .int .i64 x.b] → AppC false (ι.t 194) 2 16 #[.int .i64 0, .int .i64 0] v (.slice (some ⟨bb, 0, none⟩) 1 1) A2 (kontK P (fun q => q = b2 ∨ A.size ≤ q) A2 (.t t) (.px (.t p) none (.fa 3 (.v 2)) (.wcons .no none (.st (.t p) (.t t)) .done .wnil)) e f (Qb .n)) := fun A2 bb e v t p hap K2 O o B2 => by
    refine app_field pE_len pE_one O o K2.size (SlE.bl B2 (l := [(x.a, x.b)]) rfl (by simp) (by simp)) rfl (by omega) (by simp; omega) (K2.bl h.B2 (by simp)) hb2 (by simp) h.h2 hap fun v' A' O' o' B' K' => ?_
    exact h.fin_sa K rfl rfl (by simp; omega) O'.sl (fun q hq => .inr (o' q (O'.slB hq))) B' (K2.any.trans K')
  have new : ∀ (A1 : Hp) (T : TypeId), Keep (fun _ => False) A1 (A1.push (.cells #[.int .i64 x.a, .int .i64 x.b] T)) ∧ Bl (A1.push (.cells #[.int .i64 x.a, .int .i64 x.b] T)) A1.size [.int .i64 x.a, .int .i64 x.b] := fun A1 T => ⟨(Keep.refl _ _).push _, Bl.new' _ _ _⟩
  have cl : ∀ (A1 : Hp) (Kp : Value → Hp → Prop), Keep (fun _ => False) A A1 → (∀ v A2, OwE pE 2 A2 v F.sa → (∀ q, ownB v q → A.size ≤ q) → Keep (fun _ => False) A1 A2 → Kp v A2) → CallsM P (ι.f 204) #[a] A1 Kp := fun A1 Kp K1 hK => (hc F.sa a A1 (h.Pa.keep0 K1) (by omega)).mono fun v A2 ⟨O, o, K2⟩ => hK v A2 O (fun q hq => by have := o q hq; have := K1.size; omega) K2
  have s1 := (new A (ι.t 194)).1
  simp -implicitDefEqProofs only [go_sem, zS, ↓reduceIte, Nat.reduceEqDiff, Nat.reduceAdd, Nat.reduceMul, reduceCtorEq, kont_eq, zU, zV, Int.reduceBEq, Int.reduceBNe, Int.reduceLE, Int.reduceLT, Nat.reduceLeDiff, Nat.reduceLT, zF, h.h2, h.h6, h.B6.ldNO 2 rfl, c0 (Keep.refl _ A), c0 s1]
  have w1 := s1.any (W := fun q => q = b2 ∨ A.size ≤ q)
  refine ⟨n6, ⟨Keep.refl _ _, cl A _ (Keep.refl _ _) fun v A2 O o K2 => ?_, w1, cl _ _ s1 fun v A2 O o K2 => ?_⟩, w1, Keep.refl _ _, cl _ _ s1 fun v A2 O o K2 => ?_⟩
  · have N2 := new A2 (ι.t 194)
    simp -implicitDefEqProofs only [go_sem, zS, ↓reduceIte, Nat.reduceEqDiff, Nat.reduceAdd, Nat.reduceMul, reduceCtorEq, kont_eq, zU, zV, Int.reduceBEq, Int.reduceBNe, Int.reduceLE, Int.reduceLT, Nat.reduceLeDiff, Nat.reduceLT, zF]
    exact ⟨K2.any, N2.1.any, fin _ _ _ v _ _ rfl (K2.trans N2.1) (O.keep N2.1 (by simp)) o N2.2⟩
  · simp -implicitDefEqProofs only [go_sem, zS, ↓reduceIte, Nat.reduceEqDiff, Nat.reduceAdd, Nat.reduceMul, reduceCtorEq, kont_eq, zU, zV, Int.reduceBEq, Int.reduceBNe, Int.reduceLE, Int.reduceLT, Nat.reduceLeDiff, Nat.reduceLT, zF]
    exact ⟨K2.any, fin _ _ _ v _ _ rfl (s1.trans K2) O o (K2.bl (new A (ι.t 194)).2 (by simp))⟩
  · simp -implicitDefEqProofs only [go_sem, zS, ↓reduceIte, Nat.reduceEqDiff, Nat.reduceAdd, Nat.reduceMul, reduceCtorEq, kont_eq, zU, zV, Int.reduceBEq, Int.reduceBNe, Int.reduceLE, Int.reduceLT, Nat.reduceLeDiff, Nat.reduceLT, zF]
    exact ⟨K2.any, fin _ _ _ v _ _ rfl (s1.trans K2) O o (K2.bl (new A (ι.t 194)).2 (by simp))⟩
theorem wrapU (z : Int) : ∃ m : UInt64, IntKind.u64.wrap z = (m.toNat : Int) := by
  have h : 0 ≤ IntKind.u64.wrap z ∧ IntKind.u64.wrap z < 18446744073709551616 := by
    show 0 ≤ z % 18446744073709551616 ∧ z % 18446744073709551616 < 18446744073709551616
    omega
  exact ⟨UInt64.ofNat (IntKind.u64.wrap z).toNat, by rw [UInt64.toNat_ofNat']; omega⟩
theorem sp8_ok {P : Program} {ι : Ids} (hc : ClnSpec encM P (ι.f 294)) {k : Nat} {f : Fr} {A : Hp} {b2 b3 b6 : Nat} {F : FlN} {x : SpN} {s b d a m : Value} {Qb : Ex → Fr → Hp → Prop} (h : SpI k f A b2 b3 b6 F x s b d a m) (K : SpK k f A b2 [s, b, d, a, m] Qb) : vc P (c_sp8 ι) Qb f A := by
  unfold c_sp8
  refine vc_drk (fun q => q = b2 ∨ A.size ≤ q) ?_
  have hb2 := h.B2.lt
  have hb3 := h.B3.lt
  have hk := h.sm.mo
  have hk1 := h.k1
  have c0 : ∀ {A' : Hp}, Keep (fun _ => False) A A' → cell A' ⟨b2, 4, none⟩ = some m := fun K => by rw [(K.bl h.B2 (by simp)).cell]; rfl
  have c1 : cell A ⟨b3, 1, none⟩ = some (.int .i64 x.a) := by rw [h.B3.cell]; rfl
  have c2 : cell A ⟨b3, 2, none⟩ = some (.int .i64 x.b) := by rw [h.B3.cell]; rfl
  have n3 : ¬ (b3 = b2 ∨ A.size ≤ b3) := by have := h.n3; omega
  obtain ⟨mk, hmk⟩ := wrapU (bits .and .i64 x.b 1023)
  have fin : ∀ (A2 : Hp) (bb : Nat) (e : Env) (v : Value) (t p : Nat) (hap : (p == t) = false), Keep (fun _ => False) A A2 → OwE encM 2 A2 v F.mo → (∀ q, ownB v q → A.size ≤ q) → Bl A2 bb (encM (x.a, mk)) → AppC false (ι.t 291) 2 16 #[.int .i64 0, .int .u64 0] v (.slice (some ⟨bb, 0, none⟩) 1 1) A2 (kontK P (fun q => q = b2 ∨ A.size ≤ q) A2 (.t t) (.px (.t p) none (.fa 4 (.v 2)) (.wcons .no none (.st (.t p) (.t t)) .done .wnil)) e f (Qb .n)) := fun A2 bb e v t p hap K2 O o B2 => by
    refine app_field encM_len encM_one O o K2.size (SlE.bl B2 (l := [(x.a, mk)]) rfl (by simp [encM]) (by simp)) rfl (by omega) (by simp; omega) (K2.bl h.B2 (by simp)) hb2 (by simp) h.h2 hap fun v' A' O' o' B' K' => ?_
    exact h.fin_mo K rfl rfl (by simp; omega) O'.sl (fun q hq => .inr (o' q (O'.slB hq))) B' (K2.any.trans K')
  have new : ∀ (A1 : Hp) (T : TypeId), Keep (fun _ => False) A1 (A1.push (.cells #[.int .i64 x.a, .int .u64 mk.toNat] T)) ∧ Bl (A1.push (.cells #[.int .i64 x.a, .int .u64 mk.toNat] T)) A1.size (encM (x.a, mk)) := fun A1 T => ⟨(Keep.refl _ _).push _, Bl.new' _ _ _⟩
  have cl : ∀ (A1 : Hp) (Kp : Value → Hp → Prop), Keep (fun _ => False) A A1 → (∀ v A2, OwE encM 2 A2 v F.mo → (∀ q, ownB v q → A.size ≤ q) → Keep (fun _ => False) A1 A2 → Kp v A2) → CallsM P (ι.f 294) #[m] A1 Kp := fun A1 Kp K1 hK => (hc F.mo m A1 (h.M.keep0 K1) (by omega)).mono fun v A2 ⟨O, o, K2⟩ => hK v A2 O (fun q hq => by have := o q hq; have := K1.size; omega) K2
  have s1 := (new A (ι.t 291)).1
  simp -implicitDefEqProofs only [go_sem, zS, ↓reduceIte, Nat.reduceEqDiff, Nat.reduceAdd, Nat.reduceMul, reduceCtorEq, kont_eq, zU, zV, Int.reduceBEq, Int.reduceBNe, Int.reduceLE, Int.reduceLT, Nat.reduceLeDiff, Nat.reduceLT, zF, h.h2, h.h3, c0 (Keep.refl _ A), c1, c2, hmk, c0 s1]
  have w1 := s1.any (W := fun q => q = b2 ∨ A.size ≤ q)
  refine ⟨n3, n3, ⟨Keep.refl _ _, cl A _ (Keep.refl _ _) fun v A2 O o K2 => ?_, w1, cl _ _ s1 fun v A2 O o K2 => ?_⟩, w1, Keep.refl _ _, cl _ _ s1 fun v A2 O o K2 => ?_⟩
  · have N2 := new A2 (ι.t 291)
    simp -implicitDefEqProofs only [go_sem, zS, ↓reduceIte, Nat.reduceEqDiff, Nat.reduceAdd, Nat.reduceMul, reduceCtorEq, kont_eq, zU, zV, Int.reduceBEq, Int.reduceBNe, Int.reduceLE, Int.reduceLT, Nat.reduceLeDiff, Nat.reduceLT, zF]
    exact ⟨K2.any, N2.1.any, fin _ _ _ v _ _ rfl (K2.trans N2.1) (O.keep N2.1 (by simp)) o N2.2⟩
  · simp -implicitDefEqProofs only [go_sem, zS, ↓reduceIte, Nat.reduceEqDiff, Nat.reduceAdd, Nat.reduceMul, reduceCtorEq, kont_eq, zU, zV, Int.reduceBEq, Int.reduceBNe, Int.reduceLE, Int.reduceLT, Nat.reduceLeDiff, Nat.reduceLT, zF]
    exact ⟨K2.any, fin _ _ _ v _ _ rfl (s1.trans K2) O o (K2.bl (new A (ι.t 291)).2 (by simp))⟩
  · simp -implicitDefEqProofs only [go_sem, zS, ↓reduceIte, Nat.reduceEqDiff, Nat.reduceAdd, Nat.reduceMul, reduceCtorEq, kont_eq, zU, zV, Int.reduceBEq, Int.reduceBNe, Int.reduceLE, Int.reduceLT, Nat.reduceLeDiff, Nat.reduceLT, zF]
    exact ⟨K2.any, fin _ _ _ v _ _ rfl (s1.trans K2) O o (K2.bl (new A (ι.t 291)).2 (by simp))⟩
theorem sp9_ok {P : Program} {ι : Ids} (hc : ClnSpec pE P (ι.f 204)) {k : Nat} {f : Fr} {A : Hp} {b2 b3 b6 : Nat} {F : FlN} {x : SpN} {s b d a m : Value} {Qb : Ex → Fr → Hp → Prop} (h : SpI k f A b2 b3 b6 F x s b d a m) (K : SpK k f A b2 [s, b, d, a, m] Qb) : vc P (c_sp9 ι) Qb f A := by
  unfold c_sp9
  have c0 : cell A ⟨b2, 1, none⟩ = some b := by rw [h.B2.cell]; rfl
  have hk := h.sm.be
  have hk0 := h.sm.st
  have hk1 := h.k1
  have hb2 := h.B2.lt
  simp -implicitDefEqProofs only [go_sem, zS, ↓reduceIte, Nat.reduceEqDiff, Nat.reduceAdd, Nat.reduceMul, reduceCtorEq, zU, zV, Int.reduceBEq, Int.reduceBNe, Int.reduceLE, Int.reduceLT, Nat.reduceLeDiff, Nat.reduceLT, zF, h.h2, c0]
  refine (hc F.be b A h.Pb (by omega)).mono ?_
  rintro v A2 ⟨O, o, K2⟩
  rw [kont_eq]
  simp -implicitDefEqProofs only [go_sem, zS, ↓reduceIte, Nat.reduceEqDiff, Nat.reduceAdd, Nat.reduceMul, reduceCtorEq, zU, zV, Int.reduceBEq, Int.reduceBNe, Int.reduceLE, Int.reduceLT, Nat.reduceLeDiff, Nat.reduceLT, zF, h.h5]
  refine kont_news fun A3 b3' e3 z3 B3 K3 => ?_
  have B3' : Bl A3 b3' ([((IntKind.i64.wrap ((F.st.length : Int) - 1)), 0), (0, (IntKind.i64.wrap ((F.st.length : Int) - 1)))].flatMap pE) := B3
  simp -implicitDefEqProofs only [go_sem, zS, ↓reduceIte, Nat.reduceEqDiff, Nat.reduceAdd, Nat.reduceMul, reduceCtorEq, zU, zV, Int.reduceBEq, Int.reduceBNe, Int.reduceLE, Int.reduceLT, Nat.reduceLeDiff, Nat.reduceLT, zF]
  refine app_fieldR pE_len pE_one (O.keep K3 (by simp)) (C := A.size) o (by have := K2.size; have := K3.size; omega) (SlE.bl B3' (l := [((IntKind.i64.wrap ((F.st.length : Int) - 1)), 0), (0, (IntKind.i64.wrap ((F.st.length : Int) - 1)))]) rfl (by simp [pE]) (by simp)) rfl (by omega) (by simp; omega) ((K2.trans K3).bl h.B2 (by simp)) hb2 (by simp) h.h2 rfl fun v' A' O' o' B' K' => ?_
  exact h.fin_be K rfl rfl (by simp; omega) O'.sl (fun q hq => .inr (o' q (O'.slB hq))) B' ((K2.trans K3).any.trans K')
theorem wrap_pred {n : Nat} (h : 0 < n) (h2 : n ≤ 1000000) : IntKind.i64.wrap ((n : Int) - 1) = ((n - 1 : Nat) : Int) := by rw [IntWalk.i64_in _ (by omega)]; omega
theorem SpI.cl {P : Program} {j : FuncId} (hc : ClnSpec encS P j) {k : Nat} {f : Fr} {A : Hp} {b2 b3 b6 : Nat} {F : FlN} {x : SpN} {s b d a m : Value} (h : SpI k f A b2 b3 b6 F x s b d a m) {Kp : Value → Hp → Prop}
    (hK : ∀ v A2, OwE encS 2 A2 v F.st → (∀ q, ownB v q → A.size ≤ q) → Keep (fun _ => False) A A2 → OwE encS 2 (setc A2 ⟨b2, 0, none⟩ v) v F.st → Bl (setc A2 ⟨b2, 0, none⟩ v) b2 [v, b, d, a, m] → Keep (fun q => q = b2 ∨ A.size ≤ q) A (setc A2 ⟨b2, 0, none⟩ v) → Keep (fun q => q = b2) A2 (setc A2 ⟨b2, 0, none⟩ v) → Kp v A2) : CallsM P j #[s] A Kp := by
  have hk := h.sm.st
  have hk1 := h.k1
  have hb2 := h.B2.lt
  refine (hc F.st s A h.S (by omega)).mono fun v A2 ⟨O, o, K2⟩ => ?_
  have k3 : Keep (fun q => q = b2) A2 (setc A2 ⟨b2, 0, none⟩ v) := (Keep.refl _ _).setc _ (.inl rfl)
  refine hK v A2 O o K2 (O.keep k3 fun q hq e => ?_) ((K2.bl h.B2 (by simp)).setc 0 v) (K2.any.trans (k3.mono fun q _ e => .inl e)) k3
  have := o q hq
  omega
theorem sp2_ok {P : Program} {ι : Ids} (hc : ClnSpec encS P (ι.f 293)) {k : Nat} {f : Fr} {A : Hp} {b2 b3 b6 : Nat} {F : FlN} {x : SpN} {s b d a m : Value} {Qb : Ex → Fr → Hp → Prop} (h : SpI k f A b2 b3 b6 F x s b d a m) (K : SpK k f A b2 [s, b, d, a, m] Qb) : vc P (c_sp2 ι) Qb f A := by
  unfold c_sp2
  have hk := h.sm.st
  have hk1 := h.k1
  have hb2 := h.B2.lt
  have hb3 := h.B3.lt
  have hn : 0 < F.st.length := List.length_pos_iff.2 h.ne
  have c0 : cell A ⟨b2, 0, none⟩ = some s := by rw [h.B2.cell]; rfl
  simp -implicitDefEqProofs only [go_sem, zS, ↓reduceIte, Nat.reduceEqDiff, Nat.reduceAdd, Nat.reduceMul, reduceCtorEq, zU, zV, Int.reduceBEq, Int.reduceBNe, Int.reduceLE, Int.reduceLT, Nat.reduceLeDiff, Nat.reduceLT, zF, h.h2, c0]
  refine h.cl hc fun v A2 O o K2 O3 B3 K3 k3 => ?_
  have t2 := (K2.bl h.B2 (by simp)).okSt (o := 0) (by simp)
  have q0 := all1_sl O.sl.isSl
  have cv : cell (setc A2 ⟨b2, 0, none⟩ v) ⟨b2, 0, none⟩ = some v := by rw [B3.cell]; rfl
  have cn : cell (setc A2 ⟨b2, 0, none⟩ v) ⟨b3, 3, none⟩ = some (sV x.nm) := by rw [((K2.bl h.B3 (by simp)).setc_ne v (p := ⟨b2, 0, none⟩) h.n3).cell]; rfl
  have hp := wrap_pred hn (by omega)
  have hi : F.st.length - 1 < F.st.length := by omega
  obtain ⟨vb, c, rfl, hvb, -, ⟨g1, g2⟩, hset⟩ := owE_setc encS_len O3 hi (j := 0) (by omega)
  obtain ⟨O4, K4⟩ := hset (sV x.nm) (x.nm, F.st[F.st.length - 1].2) rfl
  have hvn := o vb hvb
  rw [sV] at cn
  simp only [Nat.add_zero, sV] at O4 K4 g1 g2
  simp -implicitDefEqProofs only [go_sem, zS, ↓reduceIte, Nat.reduceEqDiff, Nat.reduceAdd, Nat.reduceMul, reduceCtorEq, kont_eq, zU, zV, Int.reduceBEq, Int.reduceBNe, Int.reduceLE, Int.reduceLT, Nat.reduceLeDiff, Nat.reduceLT, zF, h.h2, h.h3, h.h5, t2, q0, cv, cn, hp, tn_cast, g1, g2]
  refine ⟨⟨by omega, by omega⟩, ?_⟩
  exact h.fin_st K rfl rfl (by simp; omega) O4.sl (fun q hq => .inr (o q (O4.slB hq))) (B3.setc_ne _ (p := ⟨vb, (F.st.length - 1) * 2, none⟩) (by show b2 ≠ vb; omega)) (K3.trans (K4.mono fun q _ e => .inr (by omega)))
theorem sp3_ok {P : Program} {ι : Ids} (hc : ClnSpec encS P (ι.f 293)) {k : Nat} {f : Fr} {A : Hp} {b2 b3 b6 : Nat} {F : FlN} {x : SpN} {s b d a m : Value} {Qb : Ex → Fr → Hp → Prop} (h : SpI k f A b2 b3 b6 F x s b d a m) (K : SpK k f A b2 [s, b, d, a, m] Qb) : vc P (c_sp3 ι) Qb f A := by
  unfold c_sp3
  have hk := h.sm.st
  have hk1 := h.k1
  have hb2 := h.B2.lt
  have hn : 0 < F.st.length := List.length_pos_iff.2 h.ne
  have c0 : cell A ⟨b2, 0, none⟩ = some s := by rw [h.B2.cell]; rfl
  simp -implicitDefEqProofs only [go_sem, zS, ↓reduceIte, Nat.reduceEqDiff, Nat.reduceAdd, Nat.reduceMul, reduceCtorEq, zU, zV, Int.reduceBEq, Int.reduceBNe, Int.reduceLE, Int.reduceLT, Nat.reduceLeDiff, Nat.reduceLT, zF, h.h2, c0]
  refine h.cl hc fun v A2 O o K2 O3 B3 K3 k3 => ?_
  have t2 := (K2.bl h.B2 (by simp)).okSt (o := 0) (by simp)
  have q0 := all1_sl O.sl.isSl
  have cv : cell (setc A2 ⟨b2, 0, none⟩ v) ⟨b2, 0, none⟩ = some v := by rw [B3.cell]; rfl
  have hp := wrap_pred hn (by omega)
  have hi : F.st.length - 1 < F.st.length := by omega
  obtain ⟨vb0, c0', e0, -, hc0, -, -⟩ := owE_setc encS_len O3 hn (j := 0) (by omega)
  obtain ⟨vb, c, rfl, hvb, -, ⟨g1, g2⟩, hset⟩ := owE_setc encS_len O3 hi (j := 0) (by omega)
  have e1 : vb0 = vb := by cases e0; rfl
  rw [e1] at hc0
  obtain ⟨O4, K4⟩ := hset (sV F.st[0].1) (F.st[0].1, F.st[F.st.length - 1].2) rfl
  have hvn := o vb hvb
  have hc0 : cell (setc A2 ⟨b2, 0, none⟩ (.slice (some ⟨vb, 0, none⟩) F.st.length c)) ⟨vb, 0, none⟩ = some (sV F.st[0].1) := by simpa [encS] using hc0
  rw [sV] at hc0
  simp only [Nat.add_zero, sV] at O4 K4 g1 g2
  simp -implicitDefEqProofs only [go_sem, zS, ↓reduceIte, Nat.reduceEqDiff, Nat.reduceAdd, Nat.reduceMul, reduceCtorEq, kont_eq, zU, zV, Int.reduceBEq, Int.reduceBNe, Int.reduceLE, Int.reduceLT, Nat.reduceLeDiff, Nat.reduceLT, zF, h.h2, h.h5, t2, q0, cv, hc0, hp, tn_cast, g1, g2]
  refine ⟨by omega, ⟨by omega, by omega⟩, ?_⟩
  exact h.fin_st K rfl rfl (by simp; omega) O4.sl (fun q hq => .inr (o q (O4.slB hq))) (B3.setc_ne _ (p := ⟨vb, (F.st.length - 1) * 2, none⟩) (by show b2 ≠ vb; omega)) (K3.trans (K4.mono fun q _ e => .inr (by omega)))
theorem sp4_ok {P : Program} {ι : Ids} (hc : ClnSpec encS P (ι.f 293)) {k : Nat} {f : Fr} {A : Hp} {b2 b3 b6 : Nat} {F : FlN} {x : SpN} {s b d a m : Value} {Qb : Ex → Fr → Hp → Prop} (h : SpI k f A b2 b3 b6 F x s b d a m) (K : SpK k f A b2 [s, b, d, a, m] Qb) : vc P (c_sp4 ι) Qb f A := by
  unfold c_sp4
  have hk := h.sm.st
  have hk1 := h.k1
  have hb2 := h.B2.lt
  have hn : 0 < F.st.length := List.length_pos_iff.2 h.ne
  have c0 : cell A ⟨b2, 0, none⟩ = some s := by rw [h.B2.cell]; rfl
  simp -implicitDefEqProofs only [go_sem, zS, ↓reduceIte, Nat.reduceEqDiff, Nat.reduceAdd, Nat.reduceMul, reduceCtorEq, zU, zV, Int.reduceBEq, Int.reduceBNe, Int.reduceLE, Int.reduceLT, Nat.reduceLeDiff, Nat.reduceLT, zF, h.h2, c0]
  refine h.cl hc fun v A2 O o K2 O3 B3 K3 k3 => ?_
  have t2 := (K2.bl h.B2 (by simp)).okSt (o := 0) (by simp)
  have q0 := all1_sl O.sl.isSl
  have cv : cell (setc A2 ⟨b2, 0, none⟩ v) ⟨b2, 0, none⟩ = some v := by rw [B3.cell]; rfl
  have cn : cell (setc A2 ⟨b2, 0, none⟩ v) ⟨b3, 1, none⟩ = some (.int .i64 x.a) := by rw [((K2.bl h.B3 (by simp)).setc_ne v (p := ⟨b2, 0, none⟩) h.n3).cell]; rfl
  obtain ⟨vb, c, rfl, hvb, -, ⟨g1, g2⟩, hset⟩ := owE_setc encS_len O3 hn (j := 1) (by omega)
  obtain ⟨O4, K4⟩ := hset (.int .i64 x.a) (F.st[0].1, x.a) rfl
  have hvn := o vb hvb
  simp only [Nat.zero_mul, Nat.zero_add] at O4 K4 g1 g2
  simp -implicitDefEqProofs only [go_sem, zS, ↓reduceIte, Nat.reduceEqDiff, Nat.reduceAdd, Nat.reduceMul, reduceCtorEq, kont_eq, zU, zV, Int.reduceBEq, Int.reduceBNe, Int.reduceLE, Int.reduceLT, Nat.reduceLeDiff, Nat.reduceLT, zF, h.h2, h.h3, t2, q0, cv, cn, g1, g2]
  refine ⟨by omega, ?_⟩
  exact h.fin_st K rfl rfl (by simp; omega) O4.sl (fun q hq => .inr (o q (O4.slB hq))) (B3.setc_ne _ (p := ⟨vb, 1, none⟩) (by show b2 ≠ vb; omega)) (K3.trans (K4.mono fun q _ e => .inr (by omega)))
theorem sp10_ok {P : Program} {ι : Ids} (hc : ClnSpec pE P (ι.f 204)) {k : Nat} {f : Fr} {A : Hp} {b2 b3 b6 : Nat} {F : FlN} {x : SpN} {s b d a m : Value} {Qb : Ex → Fr → Hp → Prop} (h : SpI k f A b2 b3 b6 F x s b d a m) (K : SpK k f A b2 [s, b, d, a, m] Qb) : vc P (c_sp10 ι) Qb f A := by
  unfold c_sp10
  have hk := h.sm.di
  have hk1 := h.k1
  have hb2 := h.B2.lt
  simp -implicitDefEqProofs only [go_sem, zS, ↓reduceIte, Nat.reduceEqDiff, Nat.reduceAdd, Nat.reduceMul, reduceCtorEq, kont_eq, zU, zV, Int.reduceBEq, Int.reduceBNe, Int.reduceLE, Int.reduceLT, Nat.reduceLeDiff, Nat.reduceLT, zF]
  refine vc_loop [144] rfl (fun n g A' => ∃ dv l, n = 21 - l.length ∧ l.length ≤ k + 21 ∧ Bl A' b2 [s, b, dv, a, m] ∧ SlP A' dv l ∧ (∀ q, slB dv q → (∃ c0 ∈ [s, b, d, a, m], slB c0 q) ∨ A.size ≤ q) ∧ Keep (fun q => q = b2 ∨ A.size ≤ q) A A') (21 - F.di.length) ⟨d, F.di, rfl, by omega, h.B2, h.Pd, fun q hq => .inl ⟨d, by simp, hq⟩, Keep.refl _ _⟩ ?_
  rintro n g A' ⟨dv, l, rfl, hl, B, S, o, KA⟩
  have c2 : cell A' ⟨b2, 2, none⟩ = some dv := by rw [B.cell]; rfl
  simp -implicitDefEqProofs only [go_sem, zS, ↓reduceIte, Nat.reduceEqDiff, Nat.reduceAdd, Nat.reduceMul, reduceCtorEq, zU, zV, Int.reduceBEq, Int.reduceBNe, Int.reduceLE, Int.reduceLT, Nat.reduceLeDiff, Nat.reduceLT, zF, h.h2, h.h5, c2, S.isSl, S.len]
  by_cases hle : (l.length : Int) ≤ 20
  · have d1 : decide ((l.length : Int) ≤ 20) = true := decide_eq_true hle
    simp -implicitDefEqProofs only [go_sem, zS, ↓reduceIte, Nat.reduceEqDiff, Nat.reduceAdd, Nat.reduceMul, reduceCtorEq, zU, zV, Int.reduceBEq, Int.reduceBNe, Int.reduceLE, Int.reduceLT, Nat.reduceLeDiff, Nat.reduceLT, zF, d1, h.h2, h.h5, c2]
    refine (hc l dv A' S (by omega)).mono ?_
    rintro v A2 ⟨O, o2, K2⟩
    rw [kont_eq]
    simp -implicitDefEqProofs only [go_sem, zS, ↓reduceIte, Nat.reduceEqDiff, Nat.reduceAdd, Nat.reduceMul, reduceCtorEq, zU, zV, Int.reduceBEq, Int.reduceBNe, Int.reduceLE, Int.reduceLT, Nat.reduceLeDiff, Nat.reduceLT, zF, h.h2, h.h5]
    refine kont_news fun A3 b3' e3 z3 B3 K3 => ?_
    have B3' : Bl A3 b3' (([(0, (IntKind.i64.wrap ((F.st.length : Int) - 1)))] : List (Int × Int)).flatMap pE) := B3
    have s0 := KA.size
    have s2 := K2.size
    have s3 := K3.size
    simp -implicitDefEqProofs only [go_sem, zS, ↓reduceIte, Nat.reduceEqDiff, Nat.reduceAdd, Nat.reduceMul, reduceCtorEq, zU, zV, Int.reduceBEq, Int.reduceBNe, Int.reduceLE, Int.reduceLT, Nat.reduceLeDiff, Nat.reduceLT, zF]
    refine app_fieldR pE_len pE_one (O.keep K3 (by simp)) (C := A.size) (fun q hq => by have := o2 q hq; omega) (by omega) (SlE.bl B3' (l := [(0, (IntKind.i64.wrap ((F.st.length : Int) - 1)))]) rfl (by simp [pE]) (by simp)) rfl (by omega) (by simp; omega) ((K2.trans K3).bl B (by simp)) hb2 (by simp) (by simp -implicitDefEqProofs only [go_sem, zS, ↓reduceIte, Nat.reduceEqDiff, Nat.reduceAdd, Nat.reduceMul, reduceCtorEq, kont_eq, zU, zV, Int.reduceBEq, Int.reduceBNe, Int.reduceLE, Int.reduceLT, Nat.reduceLeDiff, Nat.reduceLT, h.h2]) rfl fun v' A4 O' o' B' K' => ?_
    simp -implicitDefEqProofs only [go_sem, zS, ↓reduceIte, Nat.reduceEqDiff, Nat.reduceAdd, Nat.reduceMul, reduceCtorEq, kont_eq, zU, zV, Int.reduceBEq, Int.reduceBNe, Int.reduceLE, Int.reduceLT, Nat.reduceLeDiff, Nat.reduceLT]
    exact ⟨21 - (l.length + 1), by omega, v', l ++ [(0, (IntKind.i64.wrap ((F.st.length : Int) - 1)))], by simp, by simp; omega, B', O'.sl, fun q hq => .inr (o' q (O'.slB hq)), (KA.trans (K2.trans K3).any).trans K'⟩
  · have d1 : decide ((l.length : Int) ≤ 20) = false := decide_eq_false hle
    simp -implicitDefEqProofs only [go_sem, zS, ↓reduceIte, Nat.reduceEqDiff, Nat.reduceAdd, Nat.reduceMul, reduceCtorEq, kont_eq, zU, zV, Int.reduceBEq, Int.reduceBNe, Int.reduceLE, Int.reduceLT, Nat.reduceLeDiff, Nat.reduceLT, zF, d1]
    exact h.fin_di K (by simp -implicitDefEqProofs only [go_sem, zS, ↓reduceIte, Nat.reduceEqDiff, Nat.reduceAdd, Nat.reduceMul, reduceCtorEq, kont_eq, zU, zV, Int.reduceBEq, Int.reduceBNe, Int.reduceLE, Int.reduceLT, Nat.reduceLeDiff, Nat.reduceLT]) (by simp -implicitDefEqProofs only [go_sem, zS, ↓reduceIte, Nat.reduceEqDiff, Nat.reduceAdd, Nat.reduceMul, reduceCtorEq, kont_eq, zU, zV, Int.reduceBEq, Int.reduceBNe, Int.reduceLE, Int.reduceLT, Nat.reduceLeDiff, Nat.reduceLT]) (by omega) S o B KA
theorem sp1_ok {P : Program} {ι : Ids} (hc : ClnSpec encS P (ι.f 293)) {k : Nat} {f : Fr} {A : Hp} {b2 b3 b6 : Nat} {F : FlN} {x : SpN} {s b d a m : Value} {Qb : Ex → Fr → Hp → Prop} (h : SpI k f A b2 b3 b6 F x s b d a m) (K : SpK k f A b2 [s, b, d, a, m] Qb) : vc P (c_sp1 ι) Qb f A := by
  unfold c_sp1
  have hk := h.sm.st
  have hk1 := h.k1
  have hb2 := h.B2.lt
  have hn : 0 < F.st.length := List.length_pos_iff.2 h.ne
  have c0 : cell A ⟨b2, 0, none⟩ = some s := by rw [h.B2.cell]; rfl
  simp -implicitDefEqProofs only [go_sem, zS, ↓reduceIte, Nat.reduceEqDiff, Nat.reduceAdd, Nat.reduceMul, reduceCtorEq, zU, zV, Int.reduceBEq, Int.reduceBNe, Int.reduceLE, Int.reduceLT, Nat.reduceLeDiff, Nat.reduceLT, zF, h.h2, c0]
  refine h.cl hc fun v A2 O o K2 O3 B3 K3 k3 => ?_
  have t2 := (K2.bl h.B2 (by simp)).okSt (o := 0) (by simp)
  have q0 := all1_sl O.sl.isSl
  simp -implicitDefEqProofs only [go_sem, zS, ↓reduceIte, Nat.reduceEqDiff, Nat.reduceAdd, Nat.reduceMul, reduceCtorEq, kont_eq, zU, zV, Int.reduceBEq, Int.reduceBNe, Int.reduceLE, Int.reduceLT, Nat.reduceLeDiff, Nat.reduceLT, zF, h.h2, t2, q0]
  generalize setc A2 ⟨b2, 0, none⟩ v = A3 at *
  refine ⟨q0, ?_⟩
  refine vc_loop [30] rfl (fun n g A' => ∃ sv l, n = 11 - l.length ∧ 0 < l.length ∧ l.length ≤ k + 11 ∧ Bl A' b2 [sv, b, d, a, m] ∧ OwE encS 2 A' sv l ∧ (∀ q, ownB sv q → A.size ≤ q) ∧ Keep (fun q => q = b2 ∨ A.size ≤ q) A A') (11 - F.st.length) ⟨v, F.st, rfl, hn, by omega, B3, O3, o, K3⟩ ?_
  rintro n g A' ⟨sv, l, rfl, hl0, hl, B, S, os, KA⟩
  have c2 : cell A' ⟨b2, 0, none⟩ = some sv := by rw [B.cell]; rfl
  simp -implicitDefEqProofs only [go_sem, zS, ↓reduceIte, Nat.reduceEqDiff, Nat.reduceAdd, Nat.reduceMul, reduceCtorEq, zU, zV, Int.reduceBEq, Int.reduceBNe, Int.reduceLE, Int.reduceLT, Nat.reduceLeDiff, Nat.reduceLT, zF, h.h2, c2, S.sl.isSl, S.sl.len]
  by_cases hle : (l.length : Int) ≤ 10
  · have d1 : decide ((l.length : Int) ≤ 10) = true := decide_eq_true hle
    simp -implicitDefEqProofs only [go_sem, zS, ↓reduceIte, Nat.reduceEqDiff, Nat.reduceAdd, Nat.reduceMul, reduceCtorEq, zU, zV, Int.reduceBEq, Int.reduceBNe, Int.reduceLE, Int.reduceLT, Nat.reduceLeDiff, Nat.reduceLT, zF, d1]
    obtain ⟨vb, vc, L0, rfl, hlc, hcL, B0, hL0⟩ := S.some (by intro e; subst e; simp at hl0)
    have hvb : A.size ≤ vb := os vb rfl
    obtain ⟨y, hy⟩ : ∃ y, l[0]? = some y := ⟨l[0], List.getElem?_eq_getElem hl0⟩
    have ld : ∀ H', SlE encS 2 H' (.slice (some ⟨vb, 0, none⟩) l.length vc) l → ldNA H' ⟨vb, 0, none⟩ 2 = some #[sV y.1, .int .i64 y.2] := fun H' hS => by
      obtain ⟨b', o', c', e, -, hld⟩ := hS.elem encS_len hl0
      cases e
      rw [List.getElem?_eq_getElem hl0] at hy
      cases hy
      simpa [encS] using hld
    refine vc_drr (fun H H' => Keep (fun q => q = b2 ∨ q = vb) H H' ∧ (SlE encS 2 H (.slice (some ⟨vb, 0, none⟩) l.length vc) l → SlE encS 2 H' (.slice (some ⟨vb, 0, none⟩) l.length vc) l)) (fun _ => ⟨Keep.refl _ _, fun h => h⟩) (fun h1 h2 => ⟨h1.1.trans h2.1, fun h => h2.2 (h1.2 h)⟩) ?_
    have ldA := ld A' S.sl
    obtain ⟨A4, hA4⟩ : ∃ A4, A4 = A'.push (.cells #[sV y.1, .int .i64 y.2] (ι.t 290)) := ⟨_, rfl⟩
    have K4 : Keep (fun _ => False) A' A4 := by rw [hA4]; exact (Keep.refl _ _).push _
    have B4 : Bl A4 A'.size ([y].flatMap encS) := by rw [hA4]; exact Bl.new' _ _ _
    have s4 := K4.size
    have sA := KA.size
    have hvl := S.old (q := vb) rfl
    have c4 : cell A4 ⟨b2, 0, none⟩ = some (.slice (some ⟨vb, 0, none⟩) l.length vc) := by rw [(K4.bl B (by simp)).cell]; rfl
    simp -implicitDefEqProofs only [go_sem, zS, ↓reduceIte, Nat.reduceEqDiff, Nat.reduceAdd, Nat.reduceMul, reduceCtorEq, kont_eq, zU, zV, Int.reduceBEq, Int.reduceBNe, Int.reduceLE, Int.reduceLT, Nat.reduceLeDiff, Nat.reduceLT, zF, h.h2, c2, ldNO_ptr, ldA, Keep.refl, imp_self]
    rw [← hA4]
    simp -implicitDefEqProofs only [go_sem, zS, ↓reduceIte, Nat.reduceEqDiff, Nat.reduceAdd, Nat.reduceMul, reduceCtorEq, kont_eq, zU, zV, Int.reduceBEq, Int.reduceBNe, Int.reduceLE, Int.reduceLT, Nat.reduceLeDiff, Nat.reduceLT, c4]
    have r4 : Keep (fun q => q = b2 ∨ q = vb) A' A4 ∧ (SlE encS 2 A' (.slice (some ⟨vb, 0, none⟩) l.length vc) l → SlE encS 2 A4 (.slice (some ⟨vb, 0, none⟩) l.length vc) l) := ⟨K4.any, fun h => h.keep0 K4⟩
    have st : ∀ (H' : Hp), Keep (fun q => q = b2 ∨ q = vb) A' H' ∧ (SlE encS 2 A' (.slice (some ⟨vb, 0, none⟩) l.length vc) l → SlE encS 2 H' (.slice (some ⟨vb, 0, none⟩) l.length vc) l) → (ldNA H' ⟨vb, 0, none⟩ 2).isSome = true ∧ Value.agg ((ldNA H' ⟨vb, 0, none⟩ 2).getD #[]) = .agg #[sV y.1, .int .i64 y.2] := fun H' hR => by
      rw [ld H' (hR.2 S.sl)]; exact ⟨rfl, rfl⟩
    have fin : ∀ e, AppC false (ι.t 290) 2 24 #[.string ⟨#[]⟩, .int .i64 0] (.slice (some ⟨vb, 0, none⟩) l.length vc) (.slice (some ⟨A'.size, 0, none⟩) 1 1) A4 (kontR P (fun H H' => Keep (fun q => q = b2 ∨ q = vb) H H' ∧ (SlE encS 2 H (.slice (some ⟨vb, 0, none⟩) l.length vc) l → SlE encS 2 H' (.slice (some ⟨vb, 0, none⟩) l.length vc) l)) A4 (.t 38)
        (.px (.t 39) none (.fa 0 (.v 2)) (.wcons .no none (.st (.t 39) (.t 38)) .done .wnil)) e (upd (over f g [30]) 30 (.bool true)) (blkQ 2 (loopQ (fun n g A' => ∃ sv l, n = 11 - l.length ∧ 0 < l.length ∧ l.length ≤ k + 11 ∧ Bl A' b2 [sv, b, d, a, m] ∧ OwE encS 2 A' sv l ∧ (∀ (q : Nat), ownB sv q → A.size ≤ q) ∧ Keep (fun q => q = b2 ∨ A.size ≤ q) A A') (11 - l.length) (blkQ 1 Qb)) .n)) := fun e => by
      refine app_E0 encS_len encS_one (S.keep K4 (by simp)) (SlE.bl B4 (l := [y]) (by simp [encS]) (by simp [encS]) (by simp)) rfl (by unfold maxLen; simp; omega) (by simp; omega) fun v' A5 O' K5 o' S5 => ?_
      have B5 := K5.bl (K4.bl B (by simp)) (fun hq => by have hq : b2 = vb := hq; omega)
      have t5 := B5.okSt (o := 0) (by simp)
      have q5 := all1_sl O'.sl.isSl
      have k6 : Keep (fun q => q = b2) A5 (setc A5 ⟨b2, 0, none⟩ v') := (Keep.refl _ _).setc _ (.inl rfl)
      have nv : ∀ q, ownB v' q → A.size ≤ q := fun q hq => by
        rcases o' q hq with h' | h'
        · have h' : q = vb := h'; omega
        · omega
      have K5' : Keep (fun q => q = b2 ∨ q = vb) A4 A5 := K5.mono fun q _ hq => .inr hq
      simp -implicitDefEqProofs only [go_sem, zS, ↓reduceIte, Nat.reduceEqDiff, Nat.reduceAdd, Nat.reduceMul, reduceCtorEq, kont_eq, zU, zV, Int.reduceBEq, Int.reduceBNe, Int.reduceLE, Int.reduceLT, Nat.reduceLeDiff, Nat.reduceLT, zF, h.h2, t5]
      refine ⟨⟨K5', fun _ => S5⟩, q5, ⟨k6.mono fun q _ hq => .inl hq, fun hS => hS.keep k6 fun q hq e => ?_⟩, 11 - (l.length + 1), by omega, v', l ++ [y], by simp, by simp, by simp; omega, B5.setc 0 v', O'.keep k6 fun q hq e => ?_, nv, (((KA.trans K4.any).trans (K5'.mono fun q _ hq => ?_)).trans (k6.mono fun q _ hq => .inl hq))⟩
      · have hq : q = vb ∧ l.length ≠ 0 := hq
        omega
      · have := nv q hq; omega
      · rcases hq with hq | hq
        · exact .inl hq
        · exact .inr (by omega)
    exact ⟨⟨by omega, st, r4, fin _⟩, by omega, st, ⟨r4, fin _⟩, r4, fin _⟩
  · have d1 : decide ((l.length : Int) ≤ 10) = false := decide_eq_false hle
    simp -implicitDefEqProofs only [go_sem, zS, ↓reduceIte, Nat.reduceEqDiff, Nat.reduceAdd, Nat.reduceMul, reduceCtorEq, kont_eq, zU, zV, Int.reduceBEq, Int.reduceBNe, Int.reduceLE, Int.reduceLT, Nat.reduceLeDiff, Nat.reduceLT, zF, d1]
    exact h.fin_st K (by simp -implicitDefEqProofs only [go_sem, zS, ↓reduceIte, Nat.reduceEqDiff, Nat.reduceAdd, Nat.reduceMul, reduceCtorEq, kont_eq, zU, zV, Int.reduceBEq, Int.reduceBNe, Int.reduceLE, Int.reduceLT, Nat.reduceLeDiff, Nat.reduceLT]) (by simp -implicitDefEqProofs only [go_sem, zS, ↓reduceIte, Nat.reduceEqDiff, Nat.reduceAdd, Nat.reduceMul, reduceCtorEq, kont_eq, zU, zV, Int.reduceBEq, Int.reduceBNe, Int.reduceLE, Int.reduceLT, Nat.reduceLeDiff, Nat.reduceLT]) (by omega) S.sl (fun q hq => .inr (os q (S.slB hq))) B KA
def SpoilSpec (P : Program) (j : FuncId) : Prop := ∀ (k : Nat) (F : FlN) (x : SpN) (v : Value) (H : Hp), RefFl H v F → F.st ≠ [] → SmK k F → k ≤ 1000 → CallsM P j #[v, .agg (encX x).toArray] H fun r H' => ∃ F', RefFl H' r F' ∧ SmK (k + 30) F' ∧ (∀ q, flB r q → flB v q ∨ H.size ≤ q) ∧ Keep (fun _ => False) H H'
structure SpC (P : Program) (ι : Ids) : Prop where
  cS : ClnSpec encS P (ι.f 293)
  cP : ClnSpec pE P (ι.f 204)
  cM : ClnSpec encM P (ι.f 294)
theorem spS_ok {P : Program} {ι : Ids} (c : SpC P ι) {k : Nat} {f : Fr} {A : Hp} {b2 b3 b6 : Nat} {F : FlN} {x : SpN} {s b d a m : Value} {Qb : Ex → Fr → Hp → Prop} (h : SpI k f A b2 b3 b6 F x s b d a m) {z : Nat} (hz : z < 12) (h17 : f 17 = .int .u8 (z : Int)) (K : SpK k f A b2 [s, b, d, a, m] Qb) : vc P (c_spS ι) Qb f A := by
  unfold c_spS
  have hu : ∀ (i : Nat) (u : Value), i ≠ 2 → i ≠ 3 → i ≠ 4 → i ≠ 5 → i ≠ 6 → ∀ {f : Fr}, SpI k f A b2 b3 b6 F x s b d a m → SpI k (upd f i u) A b2 b3 b6 F x s b d a m := fun i u e2 e3 e4 e5 e6 f h => { h with h2 := by simp only [upd, if_neg e2.symm]; exact h.h2, h3 := by simp only [upd, if_neg e3.symm]; exact h.h3, h5 := by simp only [upd, if_neg e5.symm]; exact h.h5, h6 := by simp only [upd, if_neg e6.symm]; exact h.h6 }
  have hK : ∀ (i : Nat) (u : Value), i ≠ 2 → i ≠ 4 → ∀ {f : Fr}, SpK k f A b2 [s, b, d, a, m] Qb → SpK k (upd f i u) A b2 [s, b, d, a, m] Qb := fun i u e2 e4 f K f' A' cs F' q2 q4 => K f' A' cs F' (by rw [q2]; simp only [upd, if_neg e2.symm]) (by rw [q4]; simp only [upd, if_neg e4.symm])
  have hh : ∀ {f : Fr} (i : Nat) (u : Value), (i ≠ 2 ∧ i ≠ 3 ∧ i ≠ 4 ∧ i ≠ 5 ∧ i ≠ 6) → (SpI k f A b2 b3 b6 F x s b d a m ∧ SpK k f A b2 [s, b, d, a, m] Qb) → (SpI k (upd f i u) A b2 b3 b6 F x s b d a m ∧ SpK k (upd f i u) A b2 [s, b, d, a, m] Qb) := fun i u e h => ⟨hu i u e.1 e.2.1 e.2.2.1 e.2.2.2.1 e.2.2.2.2 h.1, hK i u e.1 e.2.2.1 h.2⟩
  match z, hz with
  | 0, _ =>
    have h17 : f 17 = .int .u8 0 := h17
    simp -implicitDefEqProofs only [go_sem, zS, ↓reduceIte, Nat.reduceEqDiff, Nat.reduceAdd, Nat.reduceMul, reduceCtorEq, kont_eq, zU, zV, Int.reduceBEq, Int.reduceBNe, Int.reduceLE, Int.reduceLT, Nat.reduceLeDiff, Nat.reduceLT, h17]
    refine (fun (hh : SpI k _ A b2 b3 b6 F x s b d a m ∧ SpK k _ A b2 [s, b, d, a, m] Qb) => sp0_ok  hh.1 hh.2) ?_
    repeat (first | exact ⟨h, K⟩ | refine hh _ _ (by omega) ?_)
  | 1, _ =>
    have h17 : f 17 = .int .u8 1 := h17
    simp -implicitDefEqProofs only [go_sem, zS, ↓reduceIte, Nat.reduceEqDiff, Nat.reduceAdd, Nat.reduceMul, reduceCtorEq, kont_eq, zU, zV, Int.reduceBEq, Int.reduceBNe, Int.reduceLE, Int.reduceLT, Nat.reduceLeDiff, Nat.reduceLT, h17]
    refine (fun (hh : SpI k _ A b2 b3 b6 F x s b d a m ∧ SpK k _ A b2 [s, b, d, a, m] Qb) => sp1_ok c.cS hh.1 hh.2) ?_
    repeat (first | exact ⟨h, K⟩ | refine hh _ _ (by omega) ?_)
  | 2, _ =>
    have h17 : f 17 = .int .u8 2 := h17
    simp -implicitDefEqProofs only [go_sem, zS, ↓reduceIte, Nat.reduceEqDiff, Nat.reduceAdd, Nat.reduceMul, reduceCtorEq, kont_eq, zU, zV, Int.reduceBEq, Int.reduceBNe, Int.reduceLE, Int.reduceLT, Nat.reduceLeDiff, Nat.reduceLT, h17]
    refine (fun (hh : SpI k _ A b2 b3 b6 F x s b d a m ∧ SpK k _ A b2 [s, b, d, a, m] Qb) => sp2_ok c.cS hh.1 hh.2) ?_
    repeat (first | exact ⟨h, K⟩ | refine hh _ _ (by omega) ?_)
  | 3, _ =>
    have h17 : f 17 = .int .u8 3 := h17
    simp -implicitDefEqProofs only [go_sem, zS, ↓reduceIte, Nat.reduceEqDiff, Nat.reduceAdd, Nat.reduceMul, reduceCtorEq, kont_eq, zU, zV, Int.reduceBEq, Int.reduceBNe, Int.reduceLE, Int.reduceLT, Nat.reduceLeDiff, Nat.reduceLT, h17]
    refine (fun (hh : SpI k _ A b2 b3 b6 F x s b d a m ∧ SpK k _ A b2 [s, b, d, a, m] Qb) => sp3_ok c.cS hh.1 hh.2) ?_
    repeat (first | exact ⟨h, K⟩ | refine hh _ _ (by omega) ?_)
  | 4, _ =>
    have h17 : f 17 = .int .u8 4 := h17
    simp -implicitDefEqProofs only [go_sem, zS, ↓reduceIte, Nat.reduceEqDiff, Nat.reduceAdd, Nat.reduceMul, reduceCtorEq, kont_eq, zU, zV, Int.reduceBEq, Int.reduceBNe, Int.reduceLE, Int.reduceLT, Nat.reduceLeDiff, Nat.reduceLT, h17]
    refine (fun (hh : SpI k _ A b2 b3 b6 F x s b d a m ∧ SpK k _ A b2 [s, b, d, a, m] Qb) => sp4_ok c.cS hh.1 hh.2) ?_
    repeat (first | exact ⟨h, K⟩ | refine hh _ _ (by omega) ?_)
  | 5, _ =>
    have h17 : f 17 = .int .u8 5 := h17
    simp -implicitDefEqProofs only [go_sem, zS, ↓reduceIte, Nat.reduceEqDiff, Nat.reduceAdd, Nat.reduceMul, reduceCtorEq, kont_eq, zU, zV, Int.reduceBEq, Int.reduceBNe, Int.reduceLE, Int.reduceLT, Nat.reduceLeDiff, Nat.reduceLT, h17]
    refine (fun (hh : SpI k _ A b2 b3 b6 F x s b d a m ∧ SpK k _ A b2 [s, b, d, a, m] Qb) => sp5_ok c.cP hh.1 hh.2) ?_
    repeat (first | exact ⟨h, K⟩ | refine hh _ _ (by omega) ?_)
  | 6, _ =>
    have h17 : f 17 = .int .u8 6 := h17
    simp -implicitDefEqProofs only [go_sem, zS, ↓reduceIte, Nat.reduceEqDiff, Nat.reduceAdd, Nat.reduceMul, reduceCtorEq, kont_eq, zU, zV, Int.reduceBEq, Int.reduceBNe, Int.reduceLE, Int.reduceLT, Nat.reduceLeDiff, Nat.reduceLT, h17]
    refine (fun (hh : SpI k _ A b2 b3 b6 F x s b d a m ∧ SpK k _ A b2 [s, b, d, a, m] Qb) => sp6_ok c.cP hh.1 hh.2) ?_
    repeat (first | exact ⟨h, K⟩ | refine hh _ _ (by omega) ?_)
  | 7, _ =>
    have h17 : f 17 = .int .u8 7 := h17
    simp -implicitDefEqProofs only [go_sem, zS, ↓reduceIte, Nat.reduceEqDiff, Nat.reduceAdd, Nat.reduceMul, reduceCtorEq, kont_eq, zU, zV, Int.reduceBEq, Int.reduceBNe, Int.reduceLE, Int.reduceLT, Nat.reduceLeDiff, Nat.reduceLT, h17]
    refine (fun (hh : SpI k _ A b2 b3 b6 F x s b d a m ∧ SpK k _ A b2 [s, b, d, a, m] Qb) => sp7_ok c.cP hh.1 hh.2) ?_
    repeat (first | exact ⟨h, K⟩ | refine hh _ _ (by omega) ?_)
  | 8, _ =>
    have h17 : f 17 = .int .u8 8 := h17
    simp -implicitDefEqProofs only [go_sem, zS, ↓reduceIte, Nat.reduceEqDiff, Nat.reduceAdd, Nat.reduceMul, reduceCtorEq, kont_eq, zU, zV, Int.reduceBEq, Int.reduceBNe, Int.reduceLE, Int.reduceLT, Nat.reduceLeDiff, Nat.reduceLT, h17]
    refine (fun (hh : SpI k _ A b2 b3 b6 F x s b d a m ∧ SpK k _ A b2 [s, b, d, a, m] Qb) => sp8_ok c.cM hh.1 hh.2) ?_
    repeat (first | exact ⟨h, K⟩ | refine hh _ _ (by omega) ?_)
  | 9, _ =>
    have h17 : f 17 = .int .u8 9 := h17
    simp -implicitDefEqProofs only [go_sem, zS, ↓reduceIte, Nat.reduceEqDiff, Nat.reduceAdd, Nat.reduceMul, reduceCtorEq, kont_eq, zU, zV, Int.reduceBEq, Int.reduceBNe, Int.reduceLE, Int.reduceLT, Nat.reduceLeDiff, Nat.reduceLT, h17]
    refine (fun (hh : SpI k _ A b2 b3 b6 F x s b d a m ∧ SpK k _ A b2 [s, b, d, a, m] Qb) => sp9_ok c.cP hh.1 hh.2) ?_
    repeat (first | exact ⟨h, K⟩ | refine hh _ _ (by omega) ?_)
  | 10, _ =>
    have h17 : f 17 = .int .u8 10 := h17
    simp -implicitDefEqProofs only [go_sem, zS, ↓reduceIte, Nat.reduceEqDiff, Nat.reduceAdd, Nat.reduceMul, reduceCtorEq, kont_eq, zU, zV, Int.reduceBEq, Int.reduceBNe, Int.reduceLE, Int.reduceLT, Nat.reduceLeDiff, Nat.reduceLT, h17]
    refine (fun (hh : SpI k _ A b2 b3 b6 F x s b d a m ∧ SpK k _ A b2 [s, b, d, a, m] Qb) => sp10_ok c.cP hh.1 hh.2) ?_
    repeat (first | exact ⟨h, K⟩ | refine hh _ _ (by omega) ?_)
  | 11, _ =>
    have h17 : f 17 = .int .u8 11 := h17
    simp -implicitDefEqProofs only [go_sem, zS, ↓reduceIte, Nat.reduceEqDiff, Nat.reduceAdd, Nat.reduceMul, reduceCtorEq, kont_eq, zU, zV, Int.reduceBEq, Int.reduceBNe, Int.reduceLE, Int.reduceLT, Nat.reduceLeDiff, Nat.reduceLT, h17]
    exact K _ A [s, b, d, a, m] F (by simp -implicitDefEqProofs only [go_sem, zS, ↓reduceIte, Nat.reduceEqDiff, Nat.reduceAdd, Nat.reduceMul, reduceCtorEq, kont_eq, zU, zV, Int.reduceBEq, Int.reduceBNe, Int.reduceLE, Int.reduceLT, Nat.reduceLeDiff, Nat.reduceLT]) (by simp -implicitDefEqProofs only [go_sem, zS, ↓reduceIte, Nat.reduceEqDiff, Nat.reduceAdd, Nat.reduceMul, reduceCtorEq, kont_eq, zU, zV, Int.reduceBEq, Int.reduceBNe, Int.reduceLE, Int.reduceLT, Nat.reduceLeDiff, Nat.reduceLT]) rfl h.B2 ⟨_, _, _, _, _, rfl, h.S, h.Pb, h.Pd, h.Pa, h.M⟩ (by have := h.sm; exact ⟨by have := this.st; omega, by have := this.be; omega, by have := this.di; omega, by have := this.sa; omega, by have := this.mo; omega⟩) (fun c hc q hq => .inl ⟨c, hc, hq⟩) (Keep.refl _ _)
theorem spoil_ok {P : Program} {ι : Ids} {j : FuncId} (hk : FnIs P j (c_spoil ι) r_spoil 2) (c : SpC P ι) : SpoilSpec P j := by
  intro k F x v H hv hne hsm hk1
  obtain ⟨s, b, d, a, m, rfl, h1, h2, h3, h4, h5⟩ := hv
  refine calls_of_vc hk (args := [_, _]) (by simp) ?_
  unfold c_spoil r_spoil
  have q : ∀ {v : Value}, isSl v → v.oneCell' = true := fun h => all1_sl h
  have i1 := h1.isSl
  simp -implicitDefEqProofs only [go_sem, zS, ↓reduceIte, Nat.reduceEqDiff, Nat.reduceAdd, Nat.reduceMul, reduceCtorEq, zU, zV, Int.reduceBEq, Int.reduceBNe, Int.reduceLE, Int.reduceLT, Nat.reduceLeDiff, Nat.reduceLT, zF]
  refine kont_new fun A2 b2 e2 z2 B2 K2 => ?_
  have B2' : Bl A2 b2 [s, b, d, a, m] := B2
  simp -implicitDefEqProofs only [go_sem, zS, ↓reduceIte, Nat.reduceEqDiff, Nat.reduceAdd, Nat.reduceMul, reduceCtorEq, zU, zV, Int.reduceBEq, Int.reduceBNe, Int.reduceLE, Int.reduceLT, Nat.reduceLeDiff, Nat.reduceLT, zF]
  refine kont_new fun A3 b3 e3 z3 B3 K3 => ?_
  have B3' : Bl A3 b3 (encX x) := B3
  simp -implicitDefEqProofs only [go_sem, zS, ↓reduceIte, Nat.reduceEqDiff, Nat.reduceAdd, Nat.reduceMul, reduceCtorEq, zU, zV, Int.reduceBEq, Int.reduceBNe, Int.reduceLE, Int.reduceLT, Nat.reduceLeDiff, Nat.reduceLT, zF]
  refine kont_new fun A4 b4 e4 z4 B4 K4 => ?_
  have B34 := K4.bl B3' (by simp)
  have B24 := (K3.trans K4).bl B2' (by simp)
  have K24 := (K2.trans K3).trans K4
  have x1 : cell A4 ⟨b3, 1, none⟩ = some (.int .i64 x.a) := by rw [B34.cell]; rfl
  have x2 : cell A4 ⟨b3, 2, none⟩ = some (.int .i64 x.b) := by rw [B34.cell]; rfl
  have x0 : cell A4 ⟨b3, 0, none⟩ = some (.int .u8 x.d.toNat) := by rw [B34.cell]; rfl
  have y0 : cell A4 ⟨b2, 0, none⟩ = some s := by rw [B24.cell]; rfl
  simp -implicitDefEqProofs only [go_sem, zS, ↓reduceIte, Nat.reduceEqDiff, Nat.reduceAdd, Nat.reduceMul, reduceCtorEq, zU, zV, Int.reduceBEq, Int.reduceBNe, Int.reduceLE, Int.reduceLT, Nat.reduceLeDiff, Nat.reduceLT, zF, y0, h1.isSl, h1.len, x1, x2]
  refine kont_newst [.int .i64 x.a, .int .i64 x.b] (by simp -implicitDefEqProofs only [go_sem, zS, ↓reduceIte, Nat.reduceEqDiff, Nat.reduceAdd, Nat.reduceMul, reduceCtorEq, kont_eq, zU, zV, Int.reduceBEq, Int.reduceBNe, Int.reduceLE, Int.reduceLT, Nat.reduceLeDiff, Nat.reduceLT]) rfl rfl rfl fun A6 b6 e6 z6 B6 K6 => ?_
  have x06 : cell A6 ⟨b3, 0, none⟩ = some (.int .u8 x.d.toNat) := by rw [(K6.bl B34 (by simp)).cell]; rfl
  have hrem : ((x.d.toNat : Int)).tmod 12 = ((x.d.toNat % 12 : Nat) : Int) := tmod_nat _ 12
  simp -implicitDefEqProofs only [go_sem, zS, ↓reduceIte, Nat.reduceEqDiff, Nat.reduceAdd, Nat.reduceMul, reduceCtorEq, zU, zV, Int.reduceBEq, Int.reduceBNe, Int.reduceLE, Int.reduceLT, Nat.reduceLeDiff, Nat.reduceLT, zF, x06, hrem]
  have s2 := K2.size
  have s3 := K3.size
  have s4 := K4.size
  have s6 := K6.size
  have K26 := K24.trans K6
  have old : ∀ c ∈ [s, b, d, a, m], ∀ q, slB c q → q < H.size := by
    intro c hc q hq
    simp only [List.mem_cons, List.not_mem_nil, or_false] at hc
    rcases hc with rfl | rfl | rfl | rfl | rfl
    · exact h1.old hq
    · exact h2.old hq
    · exact h3.old hq
    · exact h4.old hq
    · exact h5.old hq
  refine ⟨by decide, spS_ok c (k := k) (F := F) (x := x) (b2 := b2) (b3 := b3) (b6 := b6) (s := s) (b := b) (d := d) (a := a) (m := m)
    { h2 := by simp -implicitDefEqProofs only [go_sem, zS, ↓reduceIte, Nat.reduceEqDiff, Nat.reduceAdd, Nat.reduceMul, reduceCtorEq, kont_eq, zU, zV, Int.reduceBEq, Int.reduceBNe, Int.reduceLE, Int.reduceLT, Nat.reduceLeDiff, Nat.reduceLT], h3 := by simp -implicitDefEqProofs only [go_sem, zS, ↓reduceIte, Nat.reduceEqDiff, Nat.reduceAdd, Nat.reduceMul, reduceCtorEq, kont_eq, zU, zV, Int.reduceBEq, Int.reduceBNe, Int.reduceLE, Int.reduceLT, Nat.reduceLeDiff, Nat.reduceLT], h5 := by simp -implicitDefEqProofs only [go_sem, zS, ↓reduceIte, Nat.reduceEqDiff, Nat.reduceAdd, Nat.reduceMul, reduceCtorEq, kont_eq, zU, zV, Int.reduceBEq, Int.reduceBNe, Int.reduceLE, Int.reduceLT, Nat.reduceLeDiff, Nat.reduceLT], h6 := by simp -implicitDefEqProofs only [go_sem, zS, ↓reduceIte, Nat.reduceEqDiff, Nat.reduceAdd, Nat.reduceMul, reduceCtorEq, kont_eq, zU, zV, Int.reduceBEq, Int.reduceBNe, Int.reduceLE, Int.reduceLT, Nat.reduceLeDiff, Nat.reduceLT], B2 := K6.bl B24 (by simp), B3 := K6.bl B34 (by simp), B6 := B6, S := h1.keep0 K26, Pb := h2.keep0 K26, Pd := h3.keep0 K26, Pa := h4.keep0 K26, M := h5.keep0 K26, n3 := by omega, n6 := by omega, sm := hsm, k1 := hk1, ne := hne, o := fun c hc q hq => by have := old c hc q hq; omega }
    (Nat.mod_lt x.d.toNat (show 0 < 12 by omega)) (by simp -implicitDefEqProofs only [go_sem, zS, ↓reduceIte, Nat.reduceEqDiff, Nat.reduceAdd, Nat.reduceMul, reduceCtorEq, kont_eq, zU, zV, Int.reduceBEq, Int.reduceBNe, Int.reduceLE, Int.reduceLT, Nat.reduceLeDiff, Nat.reduceLT]) fun f' A' cs F' q2 q4 hcl B' R' S' o' K' => ?_⟩
  simp -implicitDefEqProofs only [go_sem, zS, ↓reduceIte, Nat.reduceEqDiff, Nat.reduceAdd, Nat.reduceMul, reduceCtorEq, kont_eq, zU, zV, Int.reduceBEq, Int.reduceBNe, Int.reduceLE, Int.reduceLT, Nat.reduceLeDiff, Nat.reduceLT] at q2 q4
  have hold : ∀ c ∈ cs, ∀ q, slB c q → q ≠ b4 ∧ (flB (.agg #[s, b, d, a, m]) q ∨ H.size ≤ q) := fun c hc q hq => by
    rcases o' c hc q hq with ⟨c0, h0, h1⟩ | h1
    · have := old c0 h0 q h1
      exact ⟨by omega, .inl ⟨c0, h0, h1⟩⟩
    · exact ⟨by omega, .inr (by omega)⟩
  have B4' := K'.bl (K6.bl B4 (by simp)) (show ¬ (b4 = b2 ∨ A6.size ≤ b4) by omega)
  have ha : cs.all (fun v => v.oneCell') = true := by
    obtain ⟨s', b', d', a', m', e, g1, g2, g3, g4, g5⟩ := R'
    have e : cs = [s', b', d', a', m'] := by simpa using congrArg (fun v : Value => match v with | .agg c => c.toList | _ => []) e
    rw [e]
    simp only [List.all_cons, List.all_nil, Bool.and_true, Bool.and_eq_true]
    exact ⟨all1_sl g1.isSl, all1_sl g2.isSl, all1_sl g3.isSl, all1_sl g4.isSl, all1_sl g5.isSl⟩
  simp -implicitDefEqProofs only [go_sem, zS, ↓reduceIte, Nat.reduceEqDiff, Nat.reduceAdd, Nat.reduceMul, reduceCtorEq, kont_eq, zU, zV, Int.reduceBEq, Int.reduceBNe, Int.reduceLE, Int.reduceLT, Nat.reduceLeDiff, Nat.reduceLT, zF, q2, q4, B'.ldNO 5 hcl.symm]
  refine (fun h => ⟨⟨h.1.1, hcl, h.1.2⟩, h.2⟩) (retN (R := fun r H' => ∃ F', RefFl H' r F' ∧ SmK (k + 30) F' ∧ (∀ q, flB r q → flB (.agg #[s, b, d, a, m]) q ∨ H.size ≤ q) ∧ Keep (fun _ => False) H H') B4' rfl hcl ha fun A7 z7 B7 K7 => ⟨F', R'.keep K7 (fun q hq e => ?_), S', fun q hq => ?_, (K26.trans' K' fun q hq e => ?_).trans' K7 fun q hq e => ?_⟩)
  · obtain ⟨c, h1, h2⟩ := hq
    exact (hold c h1 q h2).1 e
  · obtain ⟨c, h1, h2⟩ := hq
    exact (hold c h1 q h2).2
  · omega
  · omega
theorem mkF_smK (r : RawF) : SmK 20 (mkF r) := by
  have h := (mkF_good r).lim
  unfold tooL at h
  exact ⟨by omega, by omega, by omega, by omega, by omega⟩
theorem all1_cs {cs : Array Value} (h : all1 cs) : cs.toList.all (fun v => v.oneCell') = true := List.all_eq_true.2 h
theorem RefFl.cs {H : Hp} {v : Value} {F : FlN} (h : RefFl H v F) : ∃ cs : List Value, v = .agg cs.toArray ∧ cs.length = 5 ∧ (cs.all fun v => v.oneCell') = true := by
  have h0 := h
  obtain ⟨s, b, d, a, m, rfl, _⟩ := h
  exact ⟨[s, b, d, a, m], rfl, rfl, all1_cs h0.all1⟩
end Go.Mg
