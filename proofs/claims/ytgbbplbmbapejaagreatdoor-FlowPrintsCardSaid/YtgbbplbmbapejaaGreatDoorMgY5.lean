/- Several texts of ours in one. No conditions. -/
import Derived.Test.YtgbbplbmbapejaaGreatDoorMgY2
import Derived.Test.YtgbbplbmbapejaaGreatDoorMgV9
import Derived.Test.YtgbbplbmbapejaaGreatDoorMgV5
import Derived.Test.YtgbbplbmbapejaaGreatDoorMgN4
import Derived.Test.YtgbbplbmbapejaaGreatDoorMgS2
open Nat renaming reduceEqDiff → Za, reduceAdd → Zb, reduceMul → Zc, reduceLeDiff → Zd, reduceLT → Ze
open Int renaming reduceBEq → Zf, reduceBNe → Zg, reduceLE → Zh, reduceLT → Zi
namespace Go.Mg
open Go Go.RowKit
set_option linter.all false
set_option maxRecDepth 100000
def c_fpA (ι : Ids) : S :=
 (.reg [.p (.t 67) (.mv (.v 11)), .p (.t 68) (.fa 0 (.v 2)), .p (.t 69) (.ld (.t 68)), .p (.t 70) (.ia 2 1 (.v 13) (.c (.int .i64 0))), .p (.t 71) (.ld (.t 70)), .p (.t 72) (.is 2 (.t 69) (.t 71)), .p
 (.t 73) (.fa 0 (.t 72)), .p (.t 74) (.ld (.t 73)), .e (.t 75) (.bldF (ι.t 67) 1 1 [.t 74]), .e (.t 76) (.app false (ι.t 67) 1 16 #[.string ⟨#[]⟩] (.t 67) (.t 75)), .p (.v 11) (.mv (.t 76))])
def c_fpB (ι : Ids) : S :=
 (.seq (.reg [.p (.t 50) (.fa 1 (.v 2)), .p (.v 51) (.ld (.t 50)), .p (.v 52) (.m (.lenl (.v 51))), .p (.v 53) (.mv (.c (.int .i64 0)))]) (.blk 2 (.loop (.seq (.reg [.p (.v 54) (.cm .lss .i64 (.v 53)
 (.v 52))]) (.seq (.ite (.v 54) .skip (.exit 2)) (.seq (.blk 3 (.seq (.reg [.p (.t 55) (.is 2 (.v 51) (.v 53)), .p (.t 56) (.m (.ldn 2 (.t 55))), .e (.v 13) (.new (ι.t 194) #[.int .i64 0, .int .i64
 0]), .e .no (.stn 2 (.v 13) (.t 56))]) (.seq (.seq (.reg [.p (.t 57) (.ia 2 1 (.v 13) (.c (.int .i64 1))), .p (.t 58) (.ld (.t 57)), .p (.t 59) (.mv (.v 7)), .p (.v 60) (.cm .neq .i64 (.t 58) (.t
 59))]) (.ite (.v 60) (.exit 3) .skip)) (.seq (.seq (.reg [.p (.t 61) (.mv (.v 11)), .p (.t 62) (.m (.lenl (.t 61))), .p (.v 63) (.cm .eql .i64 (.t 62) (.c (.int .i64 4)))]) (.ite (.v 63) (.reg [.p (.t
 64) (.mv (.v 11)), .e (.t 65) (.bldF (ι.t 67) 1 1 [.c (.string ⟨#[97, 102, 116, 101, 114]⟩)]), .e (.t 66) (.app false (ι.t 67) 1 16 #[.string ⟨#[]⟩] (.t 64) (.t 65)), .p (.v 11) (.mv (.t 66))])
 .skip)) (c_fpA ι))))) (.reg [.p (.t 77) (.ar .add .i64 (.v 53) (.c (.int .i64 1))), .p (.v 53) (.mv (.t 77))])))))))
def c_fpT (ι : Ids) : S :=
 (.seq (c_fpB ι) (.reg [.p (.t 78) (.mv (.v 6)), .p (.t 79) (.mv (.v 11)), .e (.t 80) (.callv (.t 78) [.t 79])]))
def c_fpS (ι : Ids) : S :=
 (.seq (.reg [.p (.t 26) (.fa 0 (.v 2)), .p (.v 27) (.ld (.t 26)), .p (.v 28) (.m (.lenl (.v 27))), .p (.v 29) (.mv (.c (.int .i64 0)))]) (.blk 0 (.loop (.seq (.reg [.p (.v 30) (.cm .lss .i64 (.v 29)
 (.v 28))]) (.seq (.ite (.v 30) .skip (.exit 0)) (.seq (.blk 1 (.seq (.reg [.p (.t 31) (.mv (.v 29)), .p (.t 32) (.is 2 (.v 27) (.v 29)), .p (.t 33) (.m (.ldn 2 (.t 32))), .e (.v 8) (.new (ι.t 297)
 #[.string ⟨#[]⟩, .int .i64 0]), .p (.v 7) (.mv (.t 31)), .e .no (.stn 2 (.v 8) (.t 33))]) (.seq (.reg [.p (.t 35) (.mv (.v 1)), .p (.t 36) (.fa 1 (.v 8)), .p (.t 37) (.ld (.t 36)), .e (.t 38) (.call
 (ι.f 88) [.t 35, .t 37]), .p (.t 34) (.mv (.t 38)), .p (.t 39) (.ext (.t 34) 0), .p (.t 40) (.ext (.t 34) 1), .p (.v 9) (.mv (.t 39)), .p (.v 10) (.mv (.t 40))]) (.seq (.seq (.reg [.p (.t 41) (.mv (.v
 10)), .p (.v 42) (.not (.t 41))]) (.ite (.v 42) (.reg [.p (.t 43) (.fa 1 (.v 8)), .p (.t 44) (.ld (.t 43)), .e (.t 45) (.call (ι.f 217) [.t 44]), .p (.v 9) (.mv (.t 45))]) .skip)) (.seq (.reg [.p (.t
 46) (.fa 0 (.v 8)), .p (.t 47) (.ld (.t 46)), .p (.t 48) (.mv (.v 9)), .e (.t 49) (.bldF (ι.t 67) 1 4 [.c (.string ⟨#[115, 116, 101, 112]⟩), .t 47, .c (.string ⟨#[98, 121]⟩), .t 48]), .p (.v 11) (.mv
 (.t 49))]) (c_fpT ι)))))) (.reg [.p (.t 81) (.ar .add .i64 (.v 29) (.c (.int .i64 1))), .p (.v 29) (.mv (.t 81))])))))))
def c_fpD (ι : Ids) : S :=
 (.seq (.reg [.p (.t 82) (.fa 2 (.v 2)), .p (.v 83) (.ld (.t 82)), .p (.v 84) (.m (.lenl (.v 83))), .p (.v 85) (.mv (.c (.int .i64 0)))]) (.blk 4 (.loop (.seq (.reg [.p (.v 86) (.cm .lss .i64 (.v 85)
 (.v 84))]) (.seq (.ite (.v 86) .skip (.exit 4)) (.seq (.blk 5 (.seq (.reg [.p (.t 87) (.is 2 (.v 83) (.v 85)), .p (.t 88) (.m (.ldn 2 (.t 87))), .e (.v 15) (.new (ι.t 194) #[.int .i64 0, .int .i64
 0]), .e .no (.stn 2 (.v 15) (.t 88))]) (.dr (.px (.t 89) .none (.mv (.v 6)) (.px (.t 90) .none (.fa 0 (.v 2)) (.px (.t 91) .none (.ld (.t 90)) (.px (.t 92) .none (.ia 2 1 (.v 15) (.c (.int .i64 0)))
 (.px (.t 93) .none (.ld (.t 92)) (.px (.t 94) .none (.is 2 (.t 91) (.t 93)) (.px (.t 95) .none (.fa 0 (.t 94)) (.px (.t 96) .none (.ld (.t 95)) (.px (.t 97) .none (.fa 0 (.v 2)) (.px (.t 98) .none
 (.ld (.t 97)) (.px (.t 99) .none (.ia 2 1 (.v 15) (.c (.int .i64 1))) (.px (.t 100) .none (.ld (.t 99)) (.px (.t 101) .none (.is 2 (.t 98) (.t 100)) (.px (.t 102) .none (.fa 0 (.t 101)) (.px (.t 103)
 .none (.ld (.t 102)) (.wcons (.t 104) .none (.bldF (ι.t 67) 1 3 [.c (.string ⟨#[100, 105, 102, 102, 101, 114]⟩), .t 96, .t 103]) (.wcons (.t 105) .none (.callv (.t 89) [.t 104]) .done .wnil)
 .wnil))))))))))))))))))) (.reg [.p (.t 106) (.ar .add .i64 (.v 85) (.c (.int .i64 1))), .p (.v 85) (.mv (.t 106))])))))))
def c_fpE (ι : Ids) : S :=
 (.seq (.reg [.p (.t 107) (.fa 3 (.v 2)), .p (.v 108) (.ld (.t 107)), .p (.v 109) (.m (.lenl (.v 108))), .p (.v 110) (.mv (.c (.int .i64 0)))]) (.blk 6 (.loop (.seq (.reg [.p (.v 111) (.cm .lss .i64
 (.v 110) (.v 109))]) (.seq (.ite (.v 111) .skip (.exit 6)) (.seq (.blk 7 (.seq (.reg [.p (.t 112) (.is 2 (.v 108) (.v 110)), .p (.t 113) (.m (.ldn 2 (.t 112))), .e (.v 17) (.new (ι.t 194) #[.int .i64
 0, .int .i64 0]), .e .no (.stn 2 (.v 17) (.t 113))]) (.dr (.px (.t 114) .none (.mv (.v 6)) (.px (.t 115) .none (.fa 0 (.v 2)) (.px (.t 116) .none (.ld (.t 115)) (.px (.t 117) .none (.ia 2 1 (.v 17)
 (.c (.int .i64 0))) (.px (.t 118) .none (.ld (.t 117)) (.px (.t 119) .none (.is 2 (.t 116) (.t 118)) (.px (.t 120) .none (.fa 0 (.t 119)) (.px (.t 121) .none (.ld (.t 120)) (.px (.t 122) .none (.fa 0
 (.v 2)) (.px (.t 123) .none (.ld (.t 122)) (.px (.t 124) .none (.ia 2 1 (.v 17) (.c (.int .i64 1))) (.px (.t 125) .none (.ld (.t 124)) (.px (.t 126) .none (.is 2 (.t 123) (.t 125)) (.px (.t 127) .none
 (.fa 0 (.t 126)) (.px (.t 128) .none (.ld (.t 127)) (.wcons (.t 129) .none (.bldF (ι.t 67) 1 3 [.c (.string ⟨#[115, 97, 109, 101]⟩), .t 121, .t 128]) (.wcons (.t 130) .none (.callv (.t 114) [.t 129])
 .done .wnil) .wnil))))))))))))))))))) (.reg [.p (.t 131) (.ar .add .i64 (.v 110) (.c (.int .i64 1))), .p (.v 110) (.mv (.t 131))])))))))
def c_fpM (ι : Ids) : S :=
 (.seq (.reg [.p (.t 132) (.fa 4 (.v 2)), .p (.v 133) (.ld (.t 132)), .p (.v 134) (.m (.lenl (.v 133))), .p (.v 135) (.mv (.c (.int .i64 0)))]) (.blk 8 (.loop (.seq (.reg [.p (.v 136) (.cm .lss .i64
 (.v 135) (.v 134))]) (.seq (.ite (.v 136) .skip (.exit 8)) (.seq (.blk 9 (.seq (.reg [.p (.t 137) (.is 2 (.v 133) (.v 135)), .p (.t 138) (.m (.ldn 2 (.t 137))), .e (.v 19) (.new (ι.t 298) #[.int .i64
 0, .slice .none 0 0]), .e .no (.stn 2 (.v 19) (.t 138))]) (.seq (.reg [.p (.t 139) (.fa 0 (.v 19)), .p (.t 140) (.ld (.t 139)), .e (.t 141) (.call (ι.f 217) [.t 140]), .e (.t 142) (.bldF (ι.t 67) 1 2
 [.c (.string ⟨#[109, 111, 115, 116]⟩), .t 141]), .e (.v 20) (.new (ι.t 449) #[.slice .none 0 0]), .e .no (.st (.v 20) (.t 142))]) (.seq (.seq (.reg [.p (.t 143) (.fa 1 (.v 19)), .p (.t 144) (.m (.ldn
 1 (.t 143))), .e (.v 145) (.call (ι.f 137) [.t 144])]) (.blk 10 (.rf 161 (.v 145) 146 21 (.blk 11 (.dr (.px (.t 148) .none (.fa 0 (.v 2)) (.px (.t 149) .none (.ld (.t 148)) (.px (.t 150) .none (.mv
 (.v 21)) (.px (.t 151) .none (.is 2 (.t 149) (.t 150)) (.px (.t 152) .none (.fa 0 (.t 151)) (.px (.t 153) .none (.ld (.t 152)) (.wcons (.t 147) .none (.rd (.ld (.v 20))) (.wcons (.t 154) .none (.bldF
 (ι.t 67) 1 1 [.t 153]) (.wcons (.t 155) .none (.app false (ι.t 67) 1 16 #[.string ⟨#[]⟩] (.t 147) (.t 154)) (.wcons .no .none (.st (.v 20) (.t 155)) .done .wnil) .wnil) .wnil) (.wcons (.t 154) .none
 (.bldF (ι.t 67) 1 1 [.t 153]) (.wcons (.t 147) .none (.rd (.ld (.v 20))) (.wcons (.t 155) .none (.app false (ι.t 67) 1 16 #[.string ⟨#[]⟩] (.t 147) (.t 154)) (.wcons .no .none (.st (.v 20) (.t 155))
 .done .wnil) .wnil) .wnil) .wnil))))))))))))) (.reg [.p (.t 156) (.mv (.v 6)), .p (.t 157) (.ld (.v 20)), .e (.t 158) (.callv (.t 156) [.t 157])]))))) (.reg [.p (.t 159) (.ar .add .i64 (.v 135) (.c
 (.int .i64 1))), .p (.v 135) (.mv (.t 159))])))))))
def c_fprn (ι : Ids) : S :=
 .seq (.reg [.e (.v 2) (.box (ι.t 296) (.v 0)), .p (.v 4) (.mv (.c (.string ⟨#[]⟩)))]) (.seq (.seq (.reg [.p (.t 22) (.m (.ldn 5 (.v 2))), .e (.t 23) (.call (ι.f 312) [.t 22]), .p (.v 24) (.not (.t
 23))]) (.ite (.v 24) (.seq (.reg [.p (.v 4) (.mv (.c (.string ⟨#[]⟩)))]) .ret) .skip)) (.seq (.reg [.e (.v 5) (.new (ι.t 215) #[.pointer .none, .slice .none 0 0])]) (.seq (.reg [.p (.t 25) (.m (.mkf
 (ι.f 448) [] [.v 5])), .p (.v 6) (.mv (.t 25))]) (.seq (c_fpS ι) (.seq (c_fpD ι) (.seq (c_fpE ι) (.seq (c_fpM ι) (.seq (.reg [.e (.t 160) (.call (ι.f 224) [.v 5]), .p (.v 4) (.mv (.t 160))])
 .ret))))))))
def r_fprn : List RV := [.t 4]
def nmF (F : FlN) (k : Nat) : List UInt8 := (F.st.getD k ([], 0)).1
def roW (rl : List (List UInt8)) (x : Int) : List UInt8 := if 1 <= x /\ x <= (rl.length : Int) then rl.getD (x - 1).toNat [] else itoaB x.toNat
def aftW (F : FlN) (k : Nat) (l : List PrN) : List (List UInt8) := (l.filter fun x => decide (x.2 = (k : Int))).map fun x => nmF F x.1.toNat
def wStep : List UInt8 := [115, 116, 101, 112]
def wBy : List UInt8 := [98, 121]
def wAfter : List UInt8 := [97, 102, 116, 101, 114]
def wDiffer : List UInt8 := [100, 105, 102, 102, 101, 114]
def wSame : List UInt8 := [115, 97, 109, 101]
def wMost : List UInt8 := [109, 111, 115, 116]
def aftS (a : List (List UInt8)) : List (List UInt8) := if a = [] then [] else wAfter :: a
def stW (F : FlN) (rl : List (List UInt8)) (k : Nat) : List (List UInt8) := [wStep, nmF F k, wBy, roW rl (F.st.getD k ([], 0)).2] ++ aftS (aftW F k F.be)
def prW (w : List UInt8) (F : FlN) (x : PrN) : List (List UInt8) := [w, nmF F x.1.toNat, nmF F x.2.toNat]
def moW (F : FlN) (m : MoN) : List (List UInt8) := [wMost, itoaB m.1.toNat] ++ (mems (bt m.2)).map (nmF F)
def linF (w : List (List UInt8)) : List UInt8 := joinS w ++ [10]
theorem aftS_snoc (a : List (List UInt8)) (x : List UInt8) : aftS (a ++ [x]) = aftS a ++ (if a = [] then [wAfter, x] else [x]) := by
 unfold aftS
 by_cases h : a = []
 ·subst h; simp
 ·simp [h]
def BdN (ι : Ids) (A N : Nat) (X : Hp) (b : Nat) (l : List UInt8) : Prop := ∃ G, Bld ι G X b l /\ ∀ q, G q -> A <= q /\ q < N
theorem BdN.keep {ι : Ids} {A N : Nat} {X X' : Hp} {b : Nat} {l : List UInt8} {W : Nat -> Prop} (h : BdN ι A N X b l) (hk : Keep W X X') (hw : ∀ q, W q -> N <= q) : BdN ι A N X' b l := by
 obtain ⟨G, h1, h2⟩ := h
 exact ⟨G, h1.keep hk fun q hq _ hW => by have := (h2 q hq).2; have := hw q hW; omega, h2⟩
theorem BdN.line {P : Program} {ι : Ids} {k : FuncId} (hl : LineSpec P ι k) {A N : Nat} {X : Hp} {b : Nat} {l : List UInt8} {w : List (List UInt8)} {v : Value} (h : BdN ι A N X b l) (hA : A <= N) (hN : N <= X.size) (hv : SlR X v (sL w)) (h2 : 2 <= w.length) (h3 : w.length <= 100) (hw : ∀ x ∈ w, x.length <= 1000) (hll : l.length <= 800000) :
  CallsM P k #[v, .pointer (some ⟨b, 0, none⟩)] X fun r X' => BdN ι A X'.size X' b (l ++ linF w) /\ Keep (fun q => A <= q /\ q < N) X X' := by
 obtain ⟨G, g1, g2⟩ := h
 refine (hl G b l w v X g1 hv h2 h3 hw hll).mono ?_
 rintro r X' ⟨D, K⟩
 exact ⟨⟨fun q => (G q \/ X.size <= q) /\ q < X'.size, D.mono fun q hq hs => ⟨hq, hs⟩, fun q hq => ⟨by rcases hq.1 with h | h; exact (g2 q h).1; omega, hq.2⟩⟩, K.mono fun q _ h => g2 q h⟩
theorem sL_one (l : List (List UInt8)) : all1 (sL l).toArray := by
 intro v hv
 simp only [sL, List.mem_map, List.toList_toArray] at hv
 obtain ⟨x, _, rfl⟩ := hv
 rfl
theorem sL_len' (l : List (List UInt8)) : (sL l).length = l.length := by simp [sL]
theorem aftW_len (F : FlN) (k : Nat) (l : List PrN) : (aftW F k l).length <= l.length := by
 unfold aftW
 rw [List.length_map]
 exact List.length_filter_le _ _
theorem aftS_len (a : List (List UInt8)) : (aftS a).length <= a.length + 1 /\ ((aftS a).length = 0 ↔ a = []) := by
 unfold aftS
 split
 ·next h => subst h; simp
 ·next h => simp [h]
theorem push_sL {C : Nat} {T : TypeId} {Y : Hp} {bb : Nat} {w : List UInt8} {uv : Value} {ws : List (List UInt8)} {Q : Value -> Hp -> Prop} (OY : OwS Y uv (sL ws)) (hws : ws.length <= 2000) (oY : ∀ q, ownB uv q -> C <= q) (hY : C <= Y.size) (BY : Bl Y bb [sV w]) (hQ : ∀ uv' Y', OwS Y' uv' (sL (ws ++ [w])) -> (∀ q, ownB uv' q -> C <= q) -> Keep (ownB uv) Y Y' -> Q uv' Y') :
  AppC false T 1 16 #[.string ⟨#[]⟩] uv (.slice (some ⟨bb, 0, none⟩) 1 1) Y Q := by
 have hx : SlR Y (.slice (some ⟨bb, 0, none⟩) 1 1) (sL [w]) := SlR.bl BY 0 1 1 (by omega) (by simp)
 exact app_sl OY hx (sL_one [w]) rfl (by rw [sL_len', sL_len']; unfold maxLen; simp; omega) (by rw [sL_len', sL_len']; simp; omega) fun v' H' h1 h2 h3 => hQ v' H' (by rw [sL_app]; exact h1) (fun q hq => by rcases h3 q hq with h | h; exact oY q h; omega) h2
theorem encS_name {H : Hp} {s : Value} {F : FlN} (hs : SlE encS 2 H s F.st) {j : Nat} (hj : j < F.st.length) : ∃ sb so sc, s = .slice (some ⟨sb, so, none⟩) F.st.length sc /\ cell H ⟨sb, so + j * 2, none⟩ = some (sV (nmF F j)) /\ cell H ⟨sb, so + j * 2 + 1, none⟩ = some (.int .i64 (F.st.getD j ([], 0)).2) /\ ldNA H ⟨sb, so + j * 2, none⟩ 2 = some #[sV (nmF F j), .int .i64 (F.st.getD j ([], 0)).2] := by
 obtain ⟨sb, so, sc, e, -, hld⟩ := hs.elem encS_len hj
 have hg : F.st.getD j ([], 0) = F.st[j] := by rw [List.getD_eq_getElem?_getD, List.getElem?_eq_getElem hj]; rfl
 have c0 := ldNA_cell hld (j := 0) (by omega)
 have c1 := ldNA_cell hld (j := 1) (by omega)
 refine ⟨sb, so, sc, e, ?_, ?_, ?_⟩
 ·unfold nmF; rw [hg]; exact c0
 ·rw [hg]; exact c1
 ·unfold nmF; rw [hg]; exact hld
theorem fpA_ok {P : Program} {ι : Ids} {F : FlN} {j C b2 b13 : Nat} {s b d a m uv : Value} {ws : List (List UInt8)} {g : Fr} {Y : Hp} {Qb : Ex -> Fr -> Hp -> Prop} (h2 : g 2 = .pointer (some ⟨b2, 0, none⟩)) (h11 : g 11 = uv) (h13 : g 13 = .pointer (some ⟨b13, 0, none⟩)) (B2 : Bl Y b2 [s, b, d, a, m]) (hs : SlE encS 2 Y s F.st) (hj : j < F.st.length) (c13 : cell Y ⟨b13, 0, none⟩ = some (.int .i64 (j : Int)))
  (O : OwS Y uv (sL ws)) (hws : ws.length <= 2000) (o : ∀ q, ownB uv q -> C <= q) (hC : C <= Y.size) (hK : ∀ uv' Y', OwS Y' uv' (sL (ws ++ [nmF F j])) -> (∀ q, ownB uv' q -> C <= q) -> Keep (fun q => C <= q) Y Y' -> Qb .n (upd g 11 uv') Y') : vc P (c_fpA ι) Qb g Y := by
 unfold c_fpA
 have c0 : cell Y ⟨b2, 0, none⟩ = some s := by rw [B2.cell]; rfl
 obtain ⟨sb, so, sc, he, c1, _, _⟩ := encS_name hs hj
 have hb : (0 : Int) <= (j : Int) /\ (j : Int) < (F.st.length : Int) := by omega
 rw [sV] at c1
 simp -implicitDefEqProofs only [go_sem, zS, ↓reduceIte, Za, Zb, Zc, reduceCtorEq, zU, zV, Zf, Zg, Zh, Zi, Zd, Ze, zF, h2, h11, h13, c0, he, c13, tn_cast, hb, c1]
 refine kont_news fun X2 bb e2 z2 BB K2 => ?_
 have BB' : Bl X2 bb [sV (nmF F j)] := BB
 have s2 := K2.size
 simp -implicitDefEqProofs only [go_sem, zS, ↓reduceIte, Za, Zb, Zc, reduceCtorEq, zU, zV, Zf, Zg, Zh, Zi, Zd, Ze, zF]
 refine push_sL (C := C) (O.keep K2 (by simp)) hws o (by omega) BB' fun uv' Y' O' o' K' => ?_
 simp -implicitDefEqProofs only [go_sem, zS, ↓reduceIte, Za, Zb, Zc, reduceCtorEq, kont_eq, zU, zV, Zf, Zg, Zh, Zi, Zd, Ze, zF]
 exact hK uv' Y' O' o' (K2.any.trans (K'.mono fun q _ h => o q h))
theorem fpB_ok {P : Program} {ι : Ids} {F : FlN} {k C b2 : Nat} {s b d a m wv : Value} {w0 : List (List UInt8)} {f : Fr} {A : Hp} {Qb : Ex -> Fr -> Hp -> Prop} (h2 : f 2 = .pointer (some ⟨b2, 0, none⟩)) (h7 : f 7 = .int .i64 (k : Int)) (h11 : f 11 = wv) (B2 : Bl A b2 [s, b, d, a, m]) (hs : SlE encS 2 A s F.st) (hb : SlP A b F.be)
  (O : OwS A wv (sL w0)) (hw0 : w0.length = 4) (o : ∀ q, ownB wv q -> C <= q) (hC : C <= A.size) (hb2 : b2 < C) (hso : ∀ q, slB s q -> q < C) (hbo : ∀ q, slB b q -> q < C) (hok : ∀ x ∈ F.be, okP (F.st.length : Int) x) (hl : F.be.length <= 1000)
  (hK : ∀ g X wv', (∀ j, j ∉ [51, 52, 53, 54, 13, 60, 63, 11] -> g j = f j) -> g 11 = wv' -> OwS X wv' (sL (w0 ++ aftS (aftW F k F.be))) -> (∀ q, ownB wv' q -> C <= q) -> Keep (fun q => C <= q) A X -> Qb .n g X) : vc P (c_fpB ι) Qb f A := by
 unfold c_fpB
 have c1 : cell A ⟨b2, 1, none⟩ = some b := by rw [B2.cell]; rfl
 have lb : lenV b = F.be.length := hb.len
 simp -implicitDefEqProofs only [go_sem, zS, ↓reduceIte, Za, Zb, Zc, reduceCtorEq, kont_eq, zU, zV, Zf, Zg, Zh, Zi, Zd, Ze, zF, h2, c1, hb.isSl, lb]
 refine vc_range F.be.length [54, 13, 60, 63, 11, 53] rfl rfl (by omega) (by simp -implicitDefEqProofs only [go_sem, zS, ↓reduceIte, Za, Zb, Zc, reduceCtorEq, kont_eq, zU, zV, Zf, Zg, Zh, Zi, Zd, Ze]) (by simp -implicitDefEqProofs only [go_sem, zS, ↓reduceIte, Za, Zb, Zc, reduceCtorEq, kont_eq, zU, zV, Zf, Zg, Zh, Zi, Zd, Ze]) (fun i g X => ∃ wv', g 11 = wv' /\ OwS X wv' (sL (w0 ++ aftS (aftW F k (F.be.take i)))) /\ (∀ q, ownB wv' q -> C <= q) /\ Keep (fun q => C <= q) A X) ⟨wv, by simp -implicitDefEqProofs only [go_sem, zS, ↓reduceIte, Za, Zb, Zc, reduceCtorEq, kont_eq, zU, zV, Zf, Zg, Zh, Zi, Zd, Ze, h11], by simpa [aftW, aftS] using O, o, Keep.refl _ _⟩ ?_ ?_
 ·rintro i g X hi gi gn ⟨wv', g11, OX, oX, KX⟩
  simp -implicitDefEqProofs only [go_sem, zS, ↓reduceIte, Za, Zb, Zc, reduceCtorEq, kont_eq, zU, zV, Zf, Zg, Zh, Zi, Zd, Ze] at gi gn g11
  have sX := KX.size
  obtain ⟨pb, po, pc, hbe, -, hld⟩ := (hb.keep KX fun q hq h => by have := hbo q hq; omega).elem pE_len hi
  obtain ⟨x, hx⟩ : ∃ x, x = F.be[i] := ⟨_, rfl⟩
  rw [<- hx] at hld
  have hld : ldNA X ⟨pb, po + i * 2, none⟩ 2 = some #[.int .i64 x.1, .int .i64 x.2] := hld
  have hx2 := hok x (by rw [hx]; exact List.getElem_mem hi)
  unfold okP at hx2
  obtain ⟨j, hj⟩ : ∃ j : Nat, x.1 = (j : Int) := ⟨x.1.toNat, by omega⟩
  have hjn : j < F.st.length := by omega
  have hjt : x.1.toNat = j := by omega
  simp -implicitDefEqProofs only [go_sem, zS, ↓reduceIte, Za, Zb, Zc, reduceCtorEq, zU, zV, Zf, Zg, Zh, Zi, Zd, Ze, zF, gi, hbe, tn_cast, hld, ldNO_ptr]
  refine ⟨by omega, ?_⟩
  refine kont_newst [.int .i64 x.1, .int .i64 x.2] (by simp -implicitDefEqProofs only [go_sem, zS, ↓reduceIte, Za, Zb, Zc, reduceCtorEq, kont_eq, zU, zV, Zf, Zg, Zh, Zi, Zd, Ze]) rfl rfl rfl fun X1 b13 e1 z1 B13 K1 => ?_
  have sX1 := K1.size
  have c130 : cell X1 ⟨b13, 0, none⟩ = some (.int .i64 x.1) := by rw [B13.cell]; rfl
  have c131 : cell X1 ⟨b13, 1, none⟩ = some (.int .i64 x.2) := by rw [B13.cell]; rfl
  have O1 := OX.keep K1 (by simp)
  have tk : F.be.take (i + 1) = F.be.take i ++ [x] := by rw [take_snoc' hi, hx]
  obtain ⟨a0, ha0⟩ : ∃ a0, a0 = aftW F k (F.be.take i) := ⟨_, rfl⟩
  have hal : a0.length <= F.be.length := by
   rw [ha0]
   exact Nat.le_trans (aftW_len _ _ _) (by rw [List.length_take]; omega)
  rw [<- ha0] at O1
  by_cases h : x.2 = (k : Int)
  case neg =>
   have d1 : (x.2 != (k : Int)) = true := by simpa using h
   have e : aftW F k (F.be.take (i + 1)) = a0 := by rw [tk, ha0]; unfold aftW; rw [List.filter_append]; simp [h]
   simp -implicitDefEqProofs only [go_sem, zS, ↓reduceIte, Za, Zb, Zc, reduceCtorEq, kont_eq, zU, zV, Zf, Zg, Zh, Zi, Zd, Ze, zF, c131, h7, d1, g11]
   refine ⟨wv', rfl, by rw [e]; exact O1, oX, KX.trans K1.any⟩
  have d1 : (x.2 != (k : Int)) = false := by simpa using h
  have e : aftW F k (F.be.take (i + 1)) = a0 ++ [nmF F j] := by rw [tk, ha0]; unfold aftW; rw [List.filter_append]; simp [h, hjt]
  have K01 : Keep (fun q => C <= q) A X1 := KX.trans K1.any
  have wl : (sL (w0 ++ aftS a0)).length = 4 + (aftS a0).length := by rw [sL_len', List.length_append, hw0]
  obtain ⟨al1, al2⟩ := aftS_len a0
  by_cases h0 : a0 = []
  ·have d2 : ((((sL (w0 ++ aftS a0)).length : Nat) : Int) == 4) = true := by rw [wl, al2.2 h0]; rfl
   simp -implicitDefEqProofs only [go_sem, zS, ↓reduceIte, Za, Zb, Zc, reduceCtorEq, zU, zV, Zf, Zg, Zh, Zi, Zd, Ze, zF, c131, h7, d1, g11, OX.sl.isSl, O1.sl.isSl, O1.sl.len, d2]
   refine kont_news fun X2 bb e2 z2 BB K2 => ?_
   have BB' : Bl X2 bb [sV wAfter] := BB
   have s2 := K2.size
   simp -implicitDefEqProofs only [go_sem, zS, ↓reduceIte, Za, Zb, Zc, reduceCtorEq, zU, zV, Zf, Zg, Zh, Zi, Zd, Ze, zF]
   refine push_sL (C := C) (O1.keep K2 (by simp)) (by rw [List.length_append, hw0]; omega) oX (by omega) BB' fun uv' Y' O' o' K' => ?_
   rw [kont_eq]
   simp -implicitDefEqProofs only [go_sem, zS, ↓reduceIte, Za, Zb, Zc, reduceCtorEq, zU, zV, Zf, Zg, Zh, Zi, Zd, Ze, zF]
   have KY : Keep (fun q => C <= q) A Y' := K01.trans (K2.any.trans (K'.mono fun q _ h => oX q h))
   have b13Y : cell Y' ⟨b13, 0, none⟩ = some (.int .i64 x.1) := by
    rw [(K'.bl (K2.bl B13 (by simp)) fun h => by have := OX.old h; omega).cell]; rfl
   rw [hj] at b13Y
   refine fpA_ok (j := j) (C := C) (uv := uv') (by simp -implicitDefEqProofs only [go_sem, zS, ↓reduceIte, Za, Zb, Zc, reduceCtorEq, kont_eq, zU, zV, Zf, Zg, Zh, Zi, Zd, Ze, h2]) (by simp -implicitDefEqProofs only [go_sem, zS, ↓reduceIte, Za, Zb, Zc, reduceCtorEq, kont_eq, zU, zV, Zf, Zg, Zh, Zi, Zd, Ze]) (by simp -implicitDefEqProofs only [go_sem, zS, ↓reduceIte, Za, Zb, Zc, reduceCtorEq, kont_eq, zU, zV, Zf, Zg, Zh, Zi, Zd, Ze]) (KY.bl B2 (by omega)) (hs.keep KY fun q hq h => by have := hso q hq; omega) hjn b13Y O' (by rw [List.length_append, List.length_append, hw0]; simp; omega) o' (by have := KY.size; omega) fun uv2 Y2 O2 o2 K3 => ?_
   refine ⟨uv2, rfl, ?_, o2, KY.trans K3⟩
   rw [e, aftS_snoc, if_pos h0]
   have : aftS a0 = [] := by rw [h0]; rfl
   rw [this] at O2 ⊢
   simpa using O2
  ·have d2 : ((((sL (w0 ++ aftS a0)).length : Nat) : Int) == 4) = false := by
    rw [wl, beq_eq_false_iff_ne]
    have : (aftS a0).length ≠ 0 := fun e => h0 (al2.1 e)
    omega
   simp -implicitDefEqProofs only [go_sem, zS, ↓reduceIte, Za, Zb, Zc, reduceCtorEq, zU, zV, Zf, Zg, Zh, Zi, Zd, Ze, zF, c131, h7, d1, g11, OX.sl.isSl, O1.sl.isSl, O1.sl.len, d2]
   have b13Y := c130
   rw [hj] at b13Y
   refine fpA_ok (j := j) (C := C) (uv := wv') (by simp -implicitDefEqProofs only [go_sem, zS, ↓reduceIte, Za, Zb, Zc, reduceCtorEq, kont_eq, zU, zV, Zf, Zg, Zh, Zi, Zd, Ze, h2]) (by simp -implicitDefEqProofs only [go_sem, zS, ↓reduceIte, Za, Zb, Zc, reduceCtorEq, kont_eq, zU, zV, Zf, Zg, Zh, Zi, Zd, Ze, g11]) (by simp -implicitDefEqProofs only [go_sem, zS, ↓reduceIte, Za, Zb, Zc, reduceCtorEq, kont_eq, zU, zV, Zf, Zg, Zh, Zi, Zd, Ze]) (K01.bl B2 (by omega)) (hs.keep K01 fun q hq h => by have := hso q hq; omega) hjn b13Y O1 (by rw [List.length_append, hw0]; omega) oX (by omega) fun uv2 Y2 O2 o2 K3 => ?_
   simp -implicitDefEqProofs only [go_sem, zS, ↓reduceIte, Za, Zb, Zc, reduceCtorEq, kont_eq, zU, zV, Zf, Zg, Zh, Zi, Zd, Ze, zF]
   refine ⟨uv2, rfl, ?_, o2, K01.trans K3⟩
   rw [e, aftS_snoc, if_neg h0, <- List.append_assoc]
   exact O2
 ·rintro g X gi ⟨wv', g11, OX, oX, KX⟩
  simp -implicitDefEqProofs only [go_sem, zS, ↓reduceIte, Za, Zb, Zc, reduceCtorEq, kont_eq, zU, zV, Zf, Zg, Zh, Zi, Zd, Ze] at g11
  rw [List.take_of_length_le (Nat.le_refl _)] at OX
  refine hK _ X wv' (fun j hj => ?_) (by simp -implicitDefEqProofs only [go_sem, zS, ↓reduceIte, Za, Zb, Zc, reduceCtorEq, kont_eq, zU, zV, Zf, Zg, Zh, Zi, Zd, Ze, g11]) OX oX KX
  simp only [List.mem_cons, List.not_mem_nil, or_false, not_or] at hj
  obtain ⟨j1, j2, j3, j4, j5, j6, j7, j8⟩ := hj
  simp only [upd, over, j1, j2, j3, j4, j5, j6, j7, j8, if_false, List.mem_cons, List.not_mem_nil, or_false, or_self]
end Go.Mg
namespace Go.Mg
open Go Go.RowKit
set_option linter.all false
set_option maxRecDepth 100000
def SmW (w : List (List UInt8)) : Prop := 2 <= w.length /\ w.length <= 100 /\ ∀ x ∈ w, x.length <= 100
theorem SmW.lin {w : List (List UInt8)} (h : SmW w) : (linF w).length <= 10301 := by
 obtain ⟨h1, h2, h3⟩ := h
 have h4 := h3 (w.headD []) (by match w, h1 with | x :: l, _ => exact List.mem_cons_self)
 have h5 : sumJ w.tail <= 100 * w.tail.length := sumJ_le fun x hx => h3 x (List.mem_of_mem_tail hx)
 unfold linF joinS
 rw [List.length_append, List.length_append, tlJ_len, List.length_singleton]
 rw [List.length_tail] at *
 omega
theorem lin_flat {l : List (List (List UInt8))} (h : ∀ w ∈ l, SmW w) : (l.flatMap linF).length <= 10301 * l.length := by
 induction l with
 | nil => simp
 | cons w l ih =>
  have h1 := (h w List.mem_cons_self).lin
  have h2 := ih fun x hx => h x (List.mem_cons_of_mem _ hx)
  rw [List.flatMap_cons, List.length_append, List.length_cons, Nat.mul_succ]
  omega
theorem flat_snoc (l : List (List (List UInt8))) (w : List (List UInt8)) : (l ++ [w]).flatMap linF = l.flatMap linF ++ linF w := by simp
structure FpI (P : Program) (ι : Ids) (F : FlN) (C0 b2 : Nat) (s b d a m : Value) (ms : List MV) (f : Fr) (A : Hp) (txt : List UInt8) : Prop where
 f2 : f 2 = .pointer (some ⟨b2, 0, none⟩)
 f6 : f 6 = .func (.func (ι.f 448)) #[] #[.pointer (some ⟨C0, 0, none⟩)]
 B2 : Bl A b2 [s, b, d, a, m]
 hb2 : b2 < C0
 hs : SlE encS 2 A s F.st
 hb : SlP A b F.be
 hd : SlP A d F.di
 ha : SlP A a F.sa
 hm : SlE encV 2 A m ms
 mr : MosR A ms F.mo
 so : ∀ q, slB s q -> q < C0
 bo : ∀ q, slB b q -> q < C0
 do_ : ∀ q, slB d q -> q < C0
 ao : ∀ q, slB a q -> q < C0
 mo_ : ∀ q, slB m q -> q < C0
 vo : ∀ x ∈ ms, ∀ q, slB (mvV x) q -> q < C0
 bd : BdN ι C0 A.size A C0 txt
 lt : C0 <= A.size
theorem FpI.next {P : Program} {ι : Ids} {F : FlN} {C0 b2 : Nat} {s b d a m : Value} {ms : List MV} {f g : Fr} {A X : Hp} {txt txt' : List UInt8} (h : FpI P ι F C0 b2 s b d a m ms f A txt) (hk : Keep (fun q => C0 <= q) A X) (g2 : g 2 = f 2) (g6 : g 6 = f 6) (hb : BdN ι C0 X.size X C0 txt') : FpI P ι F C0 b2 s b d a m ms g X txt' := by
 have w : ∀ {v : Value}, (∀ q, slB v q -> q < C0) -> ∀ q, slB v q -> ¬ C0 <= q := fun h q hq hc => by have := h q hq; omega
 exact ⟨g2.trans h.f2, g6.trans h.f6, hk.bl h.B2 (by have := h.hb2; omega), h.hb2, h.hs.keep hk (w h.so), h.hb.keep hk (w h.bo), h.hd.keep hk (w h.do_), h.ha.keep hk (w h.ao), h.hm.keep hk (w h.mo_), h.mr.keep hk fun x hx => w (h.vo x hx), h.so, h.bo, h.do_, h.ao, h.mo_, h.vo, hb, by have := h.lt; have := hk.size; omega⟩
theorem prW_sm {w : List UInt8} {F : FlN} (hw : w.length <= 100) (hn : ∀ k, (nmF F k).length <= 100) (x : PrN) : SmW (prW w F x) := ⟨by simp [prW], by simp [prW], fun y hy => by
 simp only [prW, List.mem_cons, List.not_mem_nil, or_false] at hy
 rcases hy with rfl | rfl | rfl
 ·exact hw
 ·exact hn _
 ·exact hn _⟩
theorem fpD_ok {P : Program} {ι : Ids} {F : FlN} {C0 b2 c0 : Nat} {s b d a m : Value} {ms : List MV} {f : Fr} {A : Hp} {txt : List UInt8} {Qb : Ex -> Fr -> Hp -> Prop} (hl : LineSpec P ι (ι.f 448)) (hbo : bodyOk P (ι.f 448) = true) (h : FpI P ι F C0 b2 s b d a m ms f A txt) (hn : ∀ k, (nmF F k).length <= 100)
  (hok : ∀ x ∈ F.di, okP (F.st.length : Int) x) (ht : txt.length <= 10301 * c0) (hc : c0 + F.di.length <= 70)
  (hK : ∀ g X, (∀ j, j ∉ [83, 84, 86, 15, 85] -> g j = f j) -> FpI P ι F C0 b2 s b d a m ms g X (txt ++ (F.di.map (prW wDiffer F)).flatMap linF) -> Keep (fun q => C0 <= q) A X -> Qb .n g X) : vc P (c_fpD ι) Qb f A := by
 unfold c_fpD
 have c1 : cell A ⟨b2, 2, none⟩ = some d := by rw [h.B2.cell]; rfl
 have lb : lenV d = F.di.length := h.hd.len
 simp -implicitDefEqProofs only [go_sem, zS, ↓reduceIte, Za, Zb, Zc, reduceCtorEq, kont_eq, zU, zV, Zf, Zg, Zh, Zi, Zd, Ze, zF, h.f2, c1, h.hd.isSl, lb]
 refine vc_range F.di.length [86, 15, 85] rfl rfl (by omega) (by simp -implicitDefEqProofs only [go_sem, zS, ↓reduceIte, Za, Zb, Zc, reduceCtorEq, kont_eq, zU, zV, Zf, Zg, Zh, Zi, Zd, Ze]) (by simp -implicitDefEqProofs only [go_sem, zS, ↓reduceIte, Za, Zb, Zc, reduceCtorEq, kont_eq, zU, zV, Zf, Zg, Zh, Zi, Zd, Ze]) (fun i g X => FpI P ι F C0 b2 s b d a m ms g X (txt ++ ((F.di.take i).map (prW wDiffer F)).flatMap linF) /\ Keep (fun q => C0 <= q) A X) ⟨h.next (Keep.refl _ _) (by simp -implicitDefEqProofs only [go_sem, zS, ↓reduceIte, Za, Zb, Zc, reduceCtorEq, kont_eq, zU, zV, Zf, Zg, Zh, Zi, Zd, Ze]) (by simp -implicitDefEqProofs only [go_sem, zS, ↓reduceIte, Za, Zb, Zc, reduceCtorEq, kont_eq, zU, zV, Zf, Zg, Zh, Zi, Zd, Ze]) (by simpa using h.bd), Keep.refl _ _⟩ ?_ ?_
 ·rintro i g X hi gi gn ⟨hI, KX⟩
  have f2 := hI.f2
  have f6 := hI.f6
  simp -implicitDefEqProofs only [go_sem, zS, ↓reduceIte, Za, Zb, Zc, reduceCtorEq, kont_eq, zU, zV, Zf, Zg, Zh, Zi, Zd, Ze] at gi gn f2 f6
  obtain ⟨pb, po, pc, hbe, -, hld⟩ := hI.hd.elem pE_len hi
  obtain ⟨x, hx⟩ : ∃ x, x = F.di[i] := ⟨_, rfl⟩
  rw [<- hx] at hld
  have hld : ldNA X ⟨pb, po + i * 2, none⟩ 2 = some #[.int .i64 x.1, .int .i64 x.2] := hld
  cases hbe
  have hx2 := hok x (by rw [hx]; exact List.getElem_mem hi)
  unfold okP at hx2
  obtain ⟨j1, hj1⟩ : ∃ j : Nat, x.1 = (j : Int) := ⟨x.1.toNat, by omega⟩
  obtain ⟨j2, hj2⟩ : ∃ j : Nat, x.2 = (j : Int) := ⟨x.2.toNat, by omega⟩
  simp -implicitDefEqProofs only [go_sem, zS, ↓reduceIte, Za, Zb, Zc, reduceCtorEq, zU, zV, Zf, Zg, Zh, Zi, Zd, Ze, zF, gi, tn_cast, hld, ldNO_ptr]
  refine ⟨by omega, ?_⟩
  refine kont_newst [.int .i64 x.1, .int .i64 x.2] (by simp -implicitDefEqProofs only [go_sem, zS, ↓reduceIte, Za, Zb, Zc, reduceCtorEq, kont_eq, zU, zV, Zf, Zg, Zh, Zi, Zd, Ze]) rfl rfl rfl fun X1 b15 e1 z1 B15 K1 => ?_
  have sX1 := K1.size
  have c150 : cell X1 ⟨b15, 0, none⟩ = some (.int .i64 (j1 : Int)) := by rw [B15.cell, hj1]; rfl
  have c151 : cell X1 ⟨b15, 1, none⟩ = some (.int .i64 (j2 : Int)) := by rw [B15.cell, hj2]; rfl
  have hs1 := hI.hs.keep K1 (by simp)
  have cs0 : cell X1 ⟨b2, 0, none⟩ = some s := by rw [(K1.bl hI.B2 (by simp)).cell]; rfl
  obtain ⟨sb, so, sc, he, n1, _, _⟩ := encS_name hs1 (j := j1) (by omega)
  obtain ⟨sb', so', sc', he', n2, _, _⟩ := encS_name hs1 (j := j2) (by omega)
  have hbt : BdN ι C0 X.size X1 C0 (txt ++ ((F.di.take i).map (prW wDiffer F)).flatMap linF) := hI.bd.keep K1 fun q h => h.elim
  simp -implicitDefEqProofs only [go_sem, zS, ↓reduceIte, Za, Zb, Zc, reduceCtorEq, zU, zV, Zf, Zg, Zh, Zi, Zd, Ze, zF, f2, f6]
  refine vc_drk (fun q => C0 <= q /\ q < X.size) ?_
  have hb2 := hI.hb2
  have nw : (C0 <= b2 /\ b2 < X.size) = False := eq_false (by omega)
  have nv : (C0 <= b15 /\ b15 < X.size) = False := eq_false (by omega)
  have ns : ∀ q, slB s q -> (C0 <= q /\ q < X.size) = False := fun q hq => eq_false (by have := hI.so q hq; omega)
  have hb1 : (0 : Int) <= (j1 : Int) /\ (j1 : Int) < (F.st.length : Int) := by omega
  have hb2' : (0 : Int) <= (j2 : Int) /\ (j2 : Int) < (F.st.length : Int) := by omega
  cases he
  cases he'
  rw [sV] at n1 n2
  have hsb : sb < C0 := hI.so sb ⟨rfl, by show F.st.length ≠ 0; omega⟩
  have nsb : (C0 <= sb /\ sb < X.size) = False := eq_false (by omega)
  simp -implicitDefEqProofs only [go_sem, zS, ↓reduceIte, Za, Zb, Zc, reduceCtorEq, kont_eq, zU, zV, Zf, Zg, Zh, Zi, Zd, Ze, zF, f2, f6, cs0, c150, c151, tn_cast, hb1, hb2', n1, n2, nw, nv, nsb, not_false_iff, true_and]
  have KP : Keep (fun _ => False) X1 (X1.push (.cells #[.string ⟨#[100, 105, 102, 102, 101, 114]⟩, .string ⟨(nmF F j1).toArray⟩, .string ⟨(nmF F j2).toArray⟩] (ι.t 67))) := (Keep.refl _ _).push _
  have BP : Bl (X1.push (.cells #[.string ⟨#[100, 105, 102, 102, 101, 114]⟩, .string ⟨(nmF F j1).toArray⟩, .string ⟨(nmF F j2).toArray⟩] (ι.t 67))) X1.size (sL [wDiffer, nmF F j1, nmF F j2]) := Bl.new' X1 #[.string ⟨#[100, 105, 102, 102, 101, 114]⟩, .string ⟨(nmF F j1).toArray⟩, .string ⟨(nmF F j2).toArray⟩] (ι.t 67)
  generalize X1.push (.cells #[.string ⟨#[100, 105, 102, 102, 101, 114]⟩, .string ⟨(nmF F j1).toArray⟩, .string ⟨(nmF F j2).toArray⟩] (ι.t 67)) = X2 at KP BP ⊢
  have hp : prW wDiffer F x = [wDiffer, nmF F j1, nmF F j2] := by unfold prW; rw [hj1, hj2]; rfl
  have hsm := prW_sm (w := wDiffer) (F := F) (by decide) hn x
  have hlen : (txt ++ ((F.di.take i).map (prW wDiffer F)).flatMap linF).length <= 800000 := by
   have := lin_flat (l := (F.di.take i).map (prW wDiffer F)) fun w hw => by
    obtain ⟨y, _, rfl⟩ := List.mem_map.1 hw
    exact prW_sm (by decide) hn y
   rw [List.length_append]
   rw [List.length_map, List.length_take] at this
   omega
  have sX2 := KP.size
  rw [hp] at hsm
  refine ⟨KP.any, hbo, (BdN.line hl (hbt.keep KP fun q h => h.elim) (by have := hI.lt; omega) (by omega) (SlR.bl BP 0 3 3 (by omega) (by rw [sL_len']; exact Nat.le_refl _)) hsm.1 hsm.2.1 (fun y hy => Nat.le_trans (hsm.2.2 y hy) (by omega)) hlen).mono ?_⟩
  rintro r X3 ⟨D3, K3⟩
  rw [kontK_eq]
  refine ⟨K3, ?_⟩
  simp -implicitDefEqProofs only [go_sem, zS, ↓reduceIte, Za, Zb, Zc, reduceCtorEq, kont_eq, zU, zV, Zf, Zg, Zh, Zi, Zd, Ze, zF]
  have KX3 : Keep (fun q => C0 <= q) X X3 := ((K1.trans KP).any).trans (K3.mono fun q _ h => h.1)
  refine ⟨hI.next KX3 (by simp -implicitDefEqProofs only [go_sem, zS, ↓reduceIte, Za, Zb, Zc, reduceCtorEq, kont_eq, zU, zV, Zf, Zg, Zh, Zi, Zd, Ze]) (by simp -implicitDefEqProofs only [go_sem, zS, ↓reduceIte, Za, Zb, Zc, reduceCtorEq, kont_eq, zU, zV, Zf, Zg, Zh, Zi, Zd, Ze]) ?_, KX.trans KX3⟩
  have tk : F.di.take (i + 1) = F.di.take i ++ [x] := by rw [take_snoc' hi, hx]
  rw [tk, List.map_append, List.map_singleton, flat_snoc, hp, <- List.append_assoc]
  exact D3
 ·rintro g X gi ⟨hI, KX⟩
  rw [List.take_of_length_le (Nat.le_refl _)] at hI
  refine hK _ X (fun j hj => ?_) (hI.next (Keep.refl _ _) (by simp -implicitDefEqProofs only [go_sem, zS, ↓reduceIte, Za, Zb, Zc, reduceCtorEq, kont_eq, zU, zV, Zf, Zg, Zh, Zi, Zd, Ze]) (by simp -implicitDefEqProofs only [go_sem, zS, ↓reduceIte, Za, Zb, Zc, reduceCtorEq, kont_eq, zU, zV, Zf, Zg, Zh, Zi, Zd, Ze]) hI.bd) KX
  simp only [List.mem_cons, List.not_mem_nil, or_false, not_or] at hj
  obtain ⟨j1, j2, j3, j4, j5⟩ := hj
  simp only [upd, over, j1, j2, j3, j4, j5, if_false, List.mem_cons, List.not_mem_nil, or_false, or_self]
theorem fpE_ok {P : Program} {ι : Ids} {F : FlN} {C0 b2 c0 : Nat} {s b d a m : Value} {ms : List MV} {f : Fr} {A : Hp} {txt : List UInt8} {Qb : Ex -> Fr -> Hp -> Prop} (hl : LineSpec P ι (ι.f 448)) (hbo : bodyOk P (ι.f 448) = true) (h : FpI P ι F C0 b2 s b d a m ms f A txt) (hn : ∀ k, (nmF F k).length <= 100)
  (hok : ∀ x ∈ F.sa, okP (F.st.length : Int) x) (ht : txt.length <= 10301 * c0) (hc : c0 + F.sa.length <= 70)
  (hK : ∀ g X, (∀ j, j ∉ [108, 109, 111, 17, 110] -> g j = f j) -> FpI P ι F C0 b2 s b d a m ms g X (txt ++ (F.sa.map (prW wSame F)).flatMap linF) -> Keep (fun q => C0 <= q) A X -> Qb .n g X) : vc P (c_fpE ι) Qb f A := by
 unfold c_fpE
 have c1 : cell A ⟨b2, 3, none⟩ = some a := by rw [h.B2.cell]; rfl
 have lb : lenV a = F.sa.length := h.ha.len
 simp -implicitDefEqProofs only [go_sem, zS, ↓reduceIte, Za, Zb, Zc, reduceCtorEq, kont_eq, zU, zV, Zf, Zg, Zh, Zi, Zd, Ze, zF, h.f2, c1, h.ha.isSl, lb]
 refine vc_range F.sa.length [111, 17, 110] rfl rfl (by omega) (by simp -implicitDefEqProofs only [go_sem, zS, ↓reduceIte, Za, Zb, Zc, reduceCtorEq, kont_eq, zU, zV, Zf, Zg, Zh, Zi, Zd, Ze]) (by simp -implicitDefEqProofs only [go_sem, zS, ↓reduceIte, Za, Zb, Zc, reduceCtorEq, kont_eq, zU, zV, Zf, Zg, Zh, Zi, Zd, Ze]) (fun i g X => FpI P ι F C0 b2 s b d a m ms g X (txt ++ ((F.sa.take i).map (prW wSame F)).flatMap linF) /\ Keep (fun q => C0 <= q) A X) ⟨h.next (Keep.refl _ _) (by simp -implicitDefEqProofs only [go_sem, zS, ↓reduceIte, Za, Zb, Zc, reduceCtorEq, kont_eq, zU, zV, Zf, Zg, Zh, Zi, Zd, Ze]) (by simp -implicitDefEqProofs only [go_sem, zS, ↓reduceIte, Za, Zb, Zc, reduceCtorEq, kont_eq, zU, zV, Zf, Zg, Zh, Zi, Zd, Ze]) (by simpa using h.bd), Keep.refl _ _⟩ ?_ ?_
 ·rintro i g X hi gi gn ⟨hI, KX⟩
  have f2 := hI.f2
  have f6 := hI.f6
  simp -implicitDefEqProofs only [go_sem, zS, ↓reduceIte, Za, Zb, Zc, reduceCtorEq, kont_eq, zU, zV, Zf, Zg, Zh, Zi, Zd, Ze] at gi gn f2 f6
  obtain ⟨pb, po, pc, hbe, -, hld⟩ := hI.ha.elem pE_len hi
  obtain ⟨x, hx⟩ : ∃ x, x = F.sa[i] := ⟨_, rfl⟩
  rw [<- hx] at hld
  have hld : ldNA X ⟨pb, po + i * 2, none⟩ 2 = some #[.int .i64 x.1, .int .i64 x.2] := hld
  cases hbe
  have hx2 := hok x (by rw [hx]; exact List.getElem_mem hi)
  unfold okP at hx2
  obtain ⟨j1, hj1⟩ : ∃ j : Nat, x.1 = (j : Int) := ⟨x.1.toNat, by omega⟩
  obtain ⟨j2, hj2⟩ : ∃ j : Nat, x.2 = (j : Int) := ⟨x.2.toNat, by omega⟩
  simp -implicitDefEqProofs only [go_sem, zS, ↓reduceIte, Za, Zb, Zc, reduceCtorEq, zU, zV, Zf, Zg, Zh, Zi, Zd, Ze, zF, gi, tn_cast, hld, ldNO_ptr]
  refine ⟨by omega, ?_⟩
  refine kont_newst [.int .i64 x.1, .int .i64 x.2] (by simp -implicitDefEqProofs only [go_sem, zS, ↓reduceIte, Za, Zb, Zc, reduceCtorEq, kont_eq, zU, zV, Zf, Zg, Zh, Zi, Zd, Ze]) rfl rfl rfl fun X1 b15 e1 z1 B15 K1 => ?_
  have sX1 := K1.size
  have c150 : cell X1 ⟨b15, 0, none⟩ = some (.int .i64 (j1 : Int)) := by rw [B15.cell, hj1]; rfl
  have c151 : cell X1 ⟨b15, 1, none⟩ = some (.int .i64 (j2 : Int)) := by rw [B15.cell, hj2]; rfl
  have hs1 := hI.hs.keep K1 (by simp)
  have cs0 : cell X1 ⟨b2, 0, none⟩ = some s := by rw [(K1.bl hI.B2 (by simp)).cell]; rfl
  obtain ⟨sb, so, sc, he, n1, _, _⟩ := encS_name hs1 (j := j1) (by omega)
  obtain ⟨sb', so', sc', he', n2, _, _⟩ := encS_name hs1 (j := j2) (by omega)
  have hbt : BdN ι C0 X.size X1 C0 (txt ++ ((F.sa.take i).map (prW wSame F)).flatMap linF) := hI.bd.keep K1 fun q h => h.elim
  simp -implicitDefEqProofs only [go_sem, zS, ↓reduceIte, Za, Zb, Zc, reduceCtorEq, zU, zV, Zf, Zg, Zh, Zi, Zd, Ze, zF, f2, f6]
  refine vc_drk (fun q => C0 <= q /\ q < X.size) ?_
  have hb2 := hI.hb2
  have nw : (C0 <= b2 /\ b2 < X.size) = False := eq_false (by omega)
  have nv : (C0 <= b15 /\ b15 < X.size) = False := eq_false (by omega)
  have ns : ∀ q, slB s q -> (C0 <= q /\ q < X.size) = False := fun q hq => eq_false (by have := hI.so q hq; omega)
  have hb1 : (0 : Int) <= (j1 : Int) /\ (j1 : Int) < (F.st.length : Int) := by omega
  have hb2' : (0 : Int) <= (j2 : Int) /\ (j2 : Int) < (F.st.length : Int) := by omega
  cases he
  cases he'
  rw [sV] at n1 n2
  have hsb : sb < C0 := hI.so sb ⟨rfl, by show F.st.length ≠ 0; omega⟩
  have nsb : (C0 <= sb /\ sb < X.size) = False := eq_false (by omega)
  simp -implicitDefEqProofs only [go_sem, zS, ↓reduceIte, Za, Zb, Zc, reduceCtorEq, kont_eq, zU, zV, Zf, Zg, Zh, Zi, Zd, Ze, zF, f2, f6, cs0, c150, c151, tn_cast, hb1, hb2', n1, n2, nw, nv, nsb, not_false_iff, true_and]
  have KP : Keep (fun _ => False) X1 (X1.push (.cells #[.string ⟨#[115, 97, 109, 101]⟩, .string ⟨(nmF F j1).toArray⟩, .string ⟨(nmF F j2).toArray⟩] (ι.t 67))) := (Keep.refl _ _).push _
  have BP : Bl (X1.push (.cells #[.string ⟨#[115, 97, 109, 101]⟩, .string ⟨(nmF F j1).toArray⟩, .string ⟨(nmF F j2).toArray⟩] (ι.t 67))) X1.size (sL [wSame, nmF F j1, nmF F j2]) := Bl.new' X1 #[.string ⟨#[115, 97, 109, 101]⟩, .string ⟨(nmF F j1).toArray⟩, .string ⟨(nmF F j2).toArray⟩] (ι.t 67)
  generalize X1.push (.cells #[.string ⟨#[115, 97, 109, 101]⟩, .string ⟨(nmF F j1).toArray⟩, .string ⟨(nmF F j2).toArray⟩] (ι.t 67)) = X2 at KP BP ⊢
  have hp : prW wSame F x = [wSame, nmF F j1, nmF F j2] := by unfold prW; rw [hj1, hj2]; rfl
  have hsm := prW_sm (w := wSame) (F := F) (by decide) hn x
  have hlen : (txt ++ ((F.sa.take i).map (prW wSame F)).flatMap linF).length <= 800000 := by
   have := lin_flat (l := (F.sa.take i).map (prW wSame F)) fun w hw => by
    obtain ⟨y, _, rfl⟩ := List.mem_map.1 hw
    exact prW_sm (by decide) hn y
   rw [List.length_append]
   rw [List.length_map, List.length_take] at this
   omega
  have sX2 := KP.size
  rw [hp] at hsm
  refine ⟨KP.any, hbo, (BdN.line hl (hbt.keep KP fun q h => h.elim) (by have := hI.lt; omega) (by omega) (SlR.bl BP 0 3 3 (by omega) (by rw [sL_len']; exact Nat.le_refl _)) hsm.1 hsm.2.1 (fun y hy => Nat.le_trans (hsm.2.2 y hy) (by omega)) hlen).mono ?_⟩
  rintro r X3 ⟨D3, K3⟩
  rw [kontK_eq]
  refine ⟨K3, ?_⟩
  simp -implicitDefEqProofs only [go_sem, zS, ↓reduceIte, Za, Zb, Zc, reduceCtorEq, kont_eq, zU, zV, Zf, Zg, Zh, Zi, Zd, Ze, zF]
  have KX3 : Keep (fun q => C0 <= q) X X3 := ((K1.trans KP).any).trans (K3.mono fun q _ h => h.1)
  refine ⟨hI.next KX3 (by simp -implicitDefEqProofs only [go_sem, zS, ↓reduceIte, Za, Zb, Zc, reduceCtorEq, kont_eq, zU, zV, Zf, Zg, Zh, Zi, Zd, Ze]) (by simp -implicitDefEqProofs only [go_sem, zS, ↓reduceIte, Za, Zb, Zc, reduceCtorEq, kont_eq, zU, zV, Zf, Zg, Zh, Zi, Zd, Ze]) ?_, KX.trans KX3⟩
  have tk : F.sa.take (i + 1) = F.sa.take i ++ [x] := by rw [take_snoc' hi, hx]
  rw [tk, List.map_append, List.map_singleton, flat_snoc, hp, <- List.append_assoc]
  exact D3
 ·rintro g X gi ⟨hI, KX⟩
  rw [List.take_of_length_le (Nat.le_refl _)] at hI
  refine hK _ X (fun j hj => ?_) (hI.next (Keep.refl _ _) (by simp -implicitDefEqProofs only [go_sem, zS, ↓reduceIte, Za, Zb, Zc, reduceCtorEq, kont_eq, zU, zV, Zf, Zg, Zh, Zi, Zd, Ze]) (by simp -implicitDefEqProofs only [go_sem, zS, ↓reduceIte, Za, Zb, Zc, reduceCtorEq, kont_eq, zU, zV, Zf, Zg, Zh, Zi, Zd, Ze]) hI.bd) KX
  simp only [List.mem_cons, List.not_mem_nil, or_false, not_or] at hj
  obtain ⟨j1, j2, j3, j4, j5⟩ := hj
  simp only [upd, over, j1, j2, j3, j4, j5, if_false, List.mem_cons, List.not_mem_nil, or_false, or_self]
end Go.Mg
namespace Go.Mg
open Go Go.RowKit
set_option linter.all false
set_option maxRecDepth 100000
theorem stW_sm {F : FlN} {rl : List (List UInt8)} (hn : ∀ k, (nmF F k).length <= 100) (hr : ∀ x, (roW rl x).length <= 100) (hb : F.be.length <= 50) (k : Nat) : SmW (stW F rl k) := by
 have h1 := aftS_len (aftW F k F.be)
 have h2 := aftW_len F k F.be
 refine ⟨by simp [stW], by simp [stW]; omega, fun y hy => ?_⟩
 unfold stW at hy
 rcases List.mem_append.1 hy with hy | hy
 ·simp only [List.mem_cons, List.not_mem_nil, or_false] at hy
  rcases hy with rfl | rfl | rfl | rfl
  ·decide
  ·exact hn _
  ·decide
  ·exact hr _
 ·unfold aftS at hy
  split at hy
  ·cases hy
  ·rcases List.mem_cons.1 hy with rfl | hy
   ·decide
   ·unfold aftW at hy
    obtain ⟨z, _, rfl⟩ := List.mem_map.1 hy
    exact hn _
theorem fpT_ok {P : Program} {ι : Ids} {F : FlN} {C0 b2 k : Nat} {s b d a m wv : Value} {ms : List MV} {w0 : List (List UInt8)} {txt : List UInt8} {f g : Fr} {X Y : Hp} {Qb : Ex -> Fr -> Hp -> Prop} (hl : LineSpec P ι (ι.f 448)) (hbo : bodyOk P (ι.f 448) = true) (hI : FpI P ι F C0 b2 s b d a m ms f X txt) (KY : Keep (fun _ => False) X Y) (g2 : g 2 = f 2) (g6 : g 6 = f 6) (g7 : g 7 = .int .i64 (k : Int)) (g11 : g 11 = wv)
  (O : OwS Y wv (sL w0)) (hw0 : w0.length = 4) (o : ∀ q, ownB wv q -> X.size <= q) (hsm : SmW (w0 ++ aftS (aftW F k F.be))) (ht : txt.length <= 800000) (hok : ∀ x ∈ F.be, okP (F.st.length : Int) x) (hbl : F.be.length <= 50)
  (hK : ∀ h Z, (∀ j, j ∉ [51, 52, 53, 54, 13, 60, 63, 11] -> h j = g j) -> BdN ι C0 Z.size Z C0 (txt ++ linF (w0 ++ aftS (aftW F k F.be))) -> Keep (fun q => C0 <= q) X Z -> Qb .n h Z) : vc P (c_fpT ι) Qb g Y := by
 unfold c_fpT
 have hlt := hI.lt
 have sY := KY.size
 have hb2 := hI.hb2
 simp -implicitDefEqProofs only [go_sem, zS, ↓reduceIte, Za, Zb, Zc, reduceCtorEq, zU, zV, Zf, Zg, Zh, Zi, Zd, Ze, zF]
 refine fpB_ok (F := F) (k := k) (C := X.size) (w0 := w0) (g2.trans hI.f2) g7 g11 (KY.bl hI.B2 (by simp)) (hI.hs.keep0 KY) (hI.hb.keep0 KY) O hw0 o (by omega) (by omega) (fun q hq => by have := hI.so q hq; omega) (fun q hq => by have := hI.bo q hq; omega) hok (by omega) fun h Z wv' hf h11 OZ oZ KZ => ?_
 have h6 : h 6 = .func (.func (ι.f 448)) #[] #[.pointer (some ⟨C0, 0, none⟩)] := by rw [hf 6 (by decide), g6]; exact hI.f6
 have KXZ : Keep (fun q => X.size <= q) X Z := KY.any.trans KZ
 have hbt := hI.bd.keep KXZ fun q h => h
 have sZ := KXZ.size
 simp -implicitDefEqProofs only [go_sem, zS, ↓reduceIte, Za, Zb, Zc, reduceCtorEq, zU, zV, Zf, Zg, Zh, Zi, Zd, Ze, zF, h6, h11]
 refine ⟨hbo, (BdN.line hl hbt (by omega) (by omega) OZ.sl hsm.1 hsm.2.1 (fun y hy => Nat.le_trans (hsm.2.2 y hy) (by omega)) ht).mono ?_⟩
 rintro r Z2 ⟨D, K2⟩
 rw [kont_eq]
 simp -implicitDefEqProofs only [go_sem, zS, ↓reduceIte, Za, Zb, Zc, reduceCtorEq, kont_eq, zU, zV, Zf, Zg, Zh, Zi, Zd, Ze, zF]
 exact hK _ Z2 (fun j hj => hf j hj) D ((KXZ.mono fun q _ h => by omega).trans (K2.mono fun q _ h => h.1))
theorem fpS_ok {P : Program} {ι : Ids} {F : FlN} {C0 b2 : Nat} {s b d a m tv : Value} {ms : List MV} {rl : List (List UInt8)} {f : Fr} {A : Hp} {Qb : Ex -> Fr -> Hp -> Prop} (hl : LineSpec P ι (ι.f 448)) (hbo : bodyOk P (ι.f 448) = true) (hi : ItoaSpec P (ι.f 217)) (h : FpI P ι F C0 b2 s b d a m ms f A []) (hn : ∀ k, (nmF F k).length <= 100) (hr : ∀ x, (roW rl x).length <= 100)
  (h1 : f 1 = tv) (hnm : ∀ X x, Keep (fun q => C0 <= q) A X -> CallsM P (ι.f 88) #[tv, .int .i64 x] X fun r X' => r = nameR rl x /\ X' = X)
  (hok : ∀ x ∈ F.be, okP (F.st.length : Int) x) (hro : ∀ k, k < F.st.length -> 0 <= (F.st.getD k ([], 0)).2 /\ (F.st.getD k ([], 0)).2 < 100) (hst : F.st.length <= 10) (hbl : F.be.length <= 50)
  (hK : ∀ g X, (∀ j, j ∉ [27, 28, 30, 8, 7, 9, 10, 42, 11, 51, 52, 53, 54, 13, 60, 63, 29] -> g j = f j) -> FpI P ι F C0 b2 s b d a m ms g X (((List.range F.st.length).map (stW F rl)).flatMap linF) -> Keep (fun q => C0 <= q) A X -> Qb .n g X) : vc P (c_fpS ι) Qb f A := by
 unfold c_fpS
 have c1 : cell A ⟨b2, 0, none⟩ = some s := by rw [h.B2.cell]; rfl
 have lb : lenV s = F.st.length := h.hs.len
 simp -implicitDefEqProofs only [go_sem, zS, ↓reduceIte, Za, Zb, Zc, reduceCtorEq, kont_eq, zU, zV, Zf, Zg, Zh, Zi, Zd, Ze, zF, h.f2, c1, h.hs.isSl, lb]
 refine vc_range F.st.length [30, 8, 7, 9, 10, 42, 11, 51, 52, 53, 54, 13, 60, 63, 29] rfl rfl (by omega) (by simp -implicitDefEqProofs only [go_sem, zS, ↓reduceIte, Za, Zb, Zc, reduceCtorEq, kont_eq, zU, zV, Zf, Zg, Zh, Zi, Zd, Ze]) (by simp -implicitDefEqProofs only [go_sem, zS, ↓reduceIte, Za, Zb, Zc, reduceCtorEq, kont_eq, zU, zV, Zf, Zg, Zh, Zi, Zd, Ze]) (fun i g X => g 1 = tv /\ FpI P ι F C0 b2 s b d a m ms g X (((List.range i).map (stW F rl)).flatMap linF) /\ Keep (fun q => C0 <= q) A X) ⟨by simp -implicitDefEqProofs only [go_sem, zS, ↓reduceIte, Za, Zb, Zc, reduceCtorEq, kont_eq, zU, zV, Zf, Zg, Zh, Zi, Zd, Ze, h1], h.next (Keep.refl _ _) (by simp -implicitDefEqProofs only [go_sem, zS, ↓reduceIte, Za, Zb, Zc, reduceCtorEq, kont_eq, zU, zV, Zf, Zg, Zh, Zi, Zd, Ze]) (by simp -implicitDefEqProofs only [go_sem, zS, ↓reduceIte, Za, Zb, Zc, reduceCtorEq, kont_eq, zU, zV, Zf, Zg, Zh, Zi, Zd, Ze]) (by simpa using h.bd), Keep.refl _ _⟩ ?_ ?_
 ·rintro i g X hi' gi gn ⟨g1, hI, KX⟩
  have f2 := hI.f2
  have f6 := hI.f6
  simp -implicitDefEqProofs only [go_sem, zS, ↓reduceIte, Za, Zb, Zc, reduceCtorEq, kont_eq, zU, zV, Zf, Zg, Zh, Zi, Zd, Ze] at gi gn f2 f6 g1
  obtain ⟨sb, so, sc, he, n1, n2, hld⟩ := encS_name hI.hs (j := i) hi'
  obtain ⟨ro, hroe⟩ : ∃ ro, ro = (F.st.getD i ([], 0)).2 := ⟨_, rfl⟩
  rw [<- hroe] at n2 hld
  obtain ⟨hr0, hr1⟩ := hro i hi'
  rw [<- hroe] at hr0 hr1
  cases he
  have hib : (0 : Int) <= (i : Int) /\ (i : Int) < (F.st.length : Int) := by omega
  simp -implicitDefEqProofs only [go_sem, zS, ↓reduceIte, Za, Zb, Zc, reduceCtorEq, zU, zV, Zf, Zg, Zh, Zi, Zd, Ze, zF, gi, tn_cast, hld, ldNO_ptr, hib]
  refine kont_newstP [sV (nmF F i), .int .i64 ro] (.int .i64 (i : Int)) rfl (by simp -implicitDefEqProofs only [go_sem, zS, ↓reduceIte, Za, Zb, Zc, reduceCtorEq, kont_eq, zU, zV, Zf, Zg, Zh, Zi, Zd, Ze]) (by simp -implicitDefEqProofs only [go_sem, zS, ↓reduceIte, Za, Zb, Zc, reduceCtorEq, kont_eq, zU, zV, Zf, Zg, Zh, Zi, Zd, Ze]) rfl rfl rfl fun X1 b8 e1 z1 B8 K1 => ?_
  have sX1 := K1.size
  have c80 : cell X1 ⟨b8, 0, none⟩ = some (.string ⟨(nmF F i).toArray⟩) := by rw [B8.cell]; rfl
  have c81 : cell X1 ⟨b8, 1, none⟩ = some (.int .i64 ro) := by rw [B8.cell]; rfl
  have KA1 : Keep (fun q => C0 <= q) A X1 := KX.trans K1.any
  simp -implicitDefEqProofs only [go_sem, zS, ↓reduceIte, Za, Zb, Zc, reduceCtorEq, zU, zV, Zf, Zg, Zh, Zi, Zd, Ze, zF, g1, c81]
  refine (hnm X1 ro KA1).mono ?_
  rintro r X2 ⟨rfl, rfl⟩
  have hlen : (((List.range i).map (stW F rl)).flatMap linF).length <= 800000 := by
   have := lin_flat (l := (List.range i).map (stW F rl)) fun w hw => by
    obtain ⟨y, _, rfl⟩ := List.mem_map.1 hw
    exact stW_sm hn hr hbl y
   rw [List.length_map, List.length_range] at this
   omega
  have ends : ∀ (f' : Fr) (Z : Hp), BdN ι C0 Z.size Z C0 (((List.range i).map (stW F rl)).flatMap linF ++ linF (stW F rl i)) -> BdN ι C0 Z.size Z C0 (((List.range (i + 1)).map (stW F rl)).flatMap linF) := fun f' Z D => by
   rw [List.range_succ, List.map_append, List.map_singleton, flat_snoc]; exact D
  by_cases hin : 1 <= ro /\ ro <= (rl.length : Int)
  ·have e1 : nameR rl ro = .tuple #[sV (rl.getD (ro - 1).toNat []), .bool true] := by unfold nameR; rw [if_pos hin]
   have e2 : roW rl ro = rl.getD (ro - 1).toNat [] := by unfold roW; rw [if_pos hin]
   rw [kont_eq]
   simp -implicitDefEqProofs only [go_sem, zS, ↓reduceIte, Za, Zb, Zc, reduceCtorEq, zU, zV, Zf, Zg, Zh, Zi, Zd, Ze, zF, e1, sV, Bool.not_true, c80]
   rw [<- e2]
   refine kont_news fun X3 b11 e4 z4 B11 K3 => ?_
   have B11' : Bl X3 b11 (sL [wStep, nmF F i, wBy, roW rl ro]) := B11
   have O11 : OwS X3 (.slice (some ⟨b11, 0, none⟩) 4 4) (sL [wStep, nmF F i, wBy, roW rl ro]) := OwS.new B11' (by rw [sL_len']; rfl) rfl
   have hst' : stW F rl i = [wStep, nmF F i, wBy, roW rl ro] ++ aftS (aftW F i F.be) := by unfold stW; rw [<- hroe]
   have sX3 := K3.size
   simp -implicitDefEqProofs only [go_sem, zS, ↓reduceIte, Za, Zb, Zc, reduceCtorEq, zU, zV, Zf, Zg, Zh, Zi, Zd, Ze, zF]
   refine fpT_ok (k := i) hl hbo hI (K1.trans K3) (by simp -implicitDefEqProofs only [go_sem, zS, ↓reduceIte, Za, Zb, Zc, reduceCtorEq, kont_eq, zU, zV, Zf, Zg, Zh, Zi, Zd, Ze]) (by simp -implicitDefEqProofs only [go_sem, zS, ↓reduceIte, Za, Zb, Zc, reduceCtorEq, kont_eq, zU, zV, Zf, Zg, Zh, Zi, Zd, Ze]) (by simp -implicitDefEqProofs only [go_sem, zS, ↓reduceIte, Za, Zb, Zc, reduceCtorEq, kont_eq, zU, zV, Zf, Zg, Zh, Zi, Zd, Ze]) (by simp -implicitDefEqProofs only [go_sem, zS, ↓reduceIte, Za, Zb, Zc, reduceCtorEq, kont_eq, zU, zV, Zf, Zg, Zh, Zi, Zd, Ze]) O11 rfl (fun q hq => by have hq : q = b11 := hq; omega) (by rw [<- hst']; exact stW_sm hn hr hbl i) hlen hok hbl fun g' Z hf D KZ => ?_
   refine ⟨?_, hI.next KZ ?_ ?_ (ends g' Z (by rw [hst']; exact D)), KX.trans KZ⟩
   ·simp -implicitDefEqProofs only [go_sem, zS, ↓reduceIte, Za, Zb, Zc, reduceCtorEq, kont_eq, zU, zV, Zf, Zg, Zh, Zi, Zd, Ze]
    rw [hf 1 (by decide)]
    simp -implicitDefEqProofs only [go_sem, zS, ↓reduceIte, Za, Zb, Zc, reduceCtorEq, kont_eq, zU, zV, Zf, Zg, Zh, Zi, Zd, Ze, g1]
   ·simp -implicitDefEqProofs only [go_sem, zS, ↓reduceIte, Za, Zb, Zc, reduceCtorEq, kont_eq, zU, zV, Zf, Zg, Zh, Zi, Zd, Ze]
    rw [hf 2 (by decide)]
    simp -implicitDefEqProofs only [go_sem, zS, ↓reduceIte, Za, Zb, Zc, reduceCtorEq, kont_eq, zU, zV, Zf, Zg, Zh, Zi, Zd, Ze]
   ·simp -implicitDefEqProofs only [go_sem, zS, ↓reduceIte, Za, Zb, Zc, reduceCtorEq, kont_eq, zU, zV, Zf, Zg, Zh, Zi, Zd, Ze]
    rw [hf 6 (by decide)]
    simp -implicitDefEqProofs only [go_sem, zS, ↓reduceIte, Za, Zb, Zc, reduceCtorEq, kont_eq, zU, zV, Zf, Zg, Zh, Zi, Zd, Ze]
  ·have e1 : nameR rl ro = .tuple #[sV [], .bool false] := by unfold nameR; rw [if_neg hin]
   have e2 : roW rl ro = itoaB ro.toNat := by unfold roW; rw [if_neg hin]
   have e3 : ro = ((ro.toNat : Nat) : Int) := by omega
   rw [kont_eq]
   simp -implicitDefEqProofs only [go_sem, zS, ↓reduceIte, Za, Zb, Zc, reduceCtorEq, zU, zV, Zf, Zg, Zh, Zi, Zd, Ze, zF, e1, sV, Bool.not_false, c81]
   rw [e3]
   refine (hi ro.toNat X2 (by omega)).mono ?_
   rintro r X3 ⟨rfl, rfl⟩
   rw [<- e3] at *
   rw [kont_eq]
   simp -implicitDefEqProofs only [go_sem, zS, ↓reduceIte, Za, Zb, Zc, reduceCtorEq, zU, zV, Zf, Zg, Zh, Zi, Zd, Ze, zF, c80]
   rw [<- e2]
   refine kont_news fun X4 b11 e4 z4 B11 K3 => ?_
   have B11' : Bl X4 b11 (sL [wStep, nmF F i, wBy, roW rl ro]) := B11
   have O11 : OwS X4 (.slice (some ⟨b11, 0, none⟩) 4 4) (sL [wStep, nmF F i, wBy, roW rl ro]) := OwS.new B11' (by rw [sL_len']; rfl) rfl
   have hst' : stW F rl i = [wStep, nmF F i, wBy, roW rl ro] ++ aftS (aftW F i F.be) := by unfold stW; rw [<- hroe]
   have sX3 := K3.size
   simp -implicitDefEqProofs only [go_sem, zS, ↓reduceIte, Za, Zb, Zc, reduceCtorEq, zU, zV, Zf, Zg, Zh, Zi, Zd, Ze, zF]
   refine fpT_ok (k := i) hl hbo hI (K1.trans K3) (by simp -implicitDefEqProofs only [go_sem, zS, ↓reduceIte, Za, Zb, Zc, reduceCtorEq, kont_eq, zU, zV, Zf, Zg, Zh, Zi, Zd, Ze]) (by simp -implicitDefEqProofs only [go_sem, zS, ↓reduceIte, Za, Zb, Zc, reduceCtorEq, kont_eq, zU, zV, Zf, Zg, Zh, Zi, Zd, Ze]) (by simp -implicitDefEqProofs only [go_sem, zS, ↓reduceIte, Za, Zb, Zc, reduceCtorEq, kont_eq, zU, zV, Zf, Zg, Zh, Zi, Zd, Ze]) (by simp -implicitDefEqProofs only [go_sem, zS, ↓reduceIte, Za, Zb, Zc, reduceCtorEq, kont_eq, zU, zV, Zf, Zg, Zh, Zi, Zd, Ze]) O11 rfl (fun q hq => by have hq : q = b11 := hq; omega) (by rw [<- hst']; exact stW_sm hn hr hbl i) hlen hok hbl fun g' Z hf D KZ => ?_
   refine ⟨?_, hI.next KZ ?_ ?_ (ends g' Z (by rw [hst']; exact D)), KX.trans KZ⟩
   ·simp -implicitDefEqProofs only [go_sem, zS, ↓reduceIte, Za, Zb, Zc, reduceCtorEq, kont_eq, zU, zV, Zf, Zg, Zh, Zi, Zd, Ze]
    rw [hf 1 (by decide)]
    simp -implicitDefEqProofs only [go_sem, zS, ↓reduceIte, Za, Zb, Zc, reduceCtorEq, kont_eq, zU, zV, Zf, Zg, Zh, Zi, Zd, Ze, g1]
   ·simp -implicitDefEqProofs only [go_sem, zS, ↓reduceIte, Za, Zb, Zc, reduceCtorEq, kont_eq, zU, zV, Zf, Zg, Zh, Zi, Zd, Ze]
    rw [hf 2 (by decide)]
    simp -implicitDefEqProofs only [go_sem, zS, ↓reduceIte, Za, Zb, Zc, reduceCtorEq, kont_eq, zU, zV, Zf, Zg, Zh, Zi, Zd, Ze]
   ·simp -implicitDefEqProofs only [go_sem, zS, ↓reduceIte, Za, Zb, Zc, reduceCtorEq, kont_eq, zU, zV, Zf, Zg, Zh, Zi, Zd, Ze]
    rw [hf 6 (by decide)]
    simp -implicitDefEqProofs only [go_sem, zS, ↓reduceIte, Za, Zb, Zc, reduceCtorEq, kont_eq, zU, zV, Zf, Zg, Zh, Zi, Zd, Ze]
 ·rintro g X gi ⟨g1, hI, KX⟩
  refine hK _ X (fun j hj => ?_) (hI.next (Keep.refl _ _) (by simp -implicitDefEqProofs only [go_sem, zS, ↓reduceIte, Za, Zb, Zc, reduceCtorEq, kont_eq, zU, zV, Zf, Zg, Zh, Zi, Zd, Ze]) (by simp -implicitDefEqProofs only [go_sem, zS, ↓reduceIte, Za, Zb, Zc, reduceCtorEq, kont_eq, zU, zV, Zf, Zg, Zh, Zi, Zd, Ze]) hI.bd) KX
  simp only [List.mem_cons, List.not_mem_nil, or_false, not_or] at hj
  simp only [upd, over, hj, if_false, List.mem_cons, List.not_mem_nil, or_false, or_self]
end Go.Mg
