/- The functions of this seat that the laws about digests use, what they compute, and what the laid tables are. No conditions. -/
import Derived.Test.YthffkklaodanaaaDoorRows
import Derived.Test.YthffkklaodanaaaDoorTie
import Derived.Test.YthffkklaodanaaaDoorCards
import Derived.Test.YthffkklaodanaaaDoorMgK19
import Derived.Test.YthffkklaodanaaaDoorMgOpen
import Derived.SevenTiedAt
namespace Go.Proofs.YthffkklaodanaaaDoor
open Go.ChangeShapes Go.WideShapes Go.ChangeAt Go.WideElems Go.RowKit Go.Mg
set_option maxRecDepth 100000
def ids : Ids := ⟨fun n => ([63, 55, 0, 0, 0, 0, 58, 43, 20, 0, 0, 22, 0, 19, 14, 21, 23, 28, 15, 0, 24, 13, 0, 10, 9, 6, 0, 56, 0, 40, 41, 39, 0, 16, 3, 5, 26, 45, 27, 44, 25, 59, 7, 8, 57, 42, 17, 18, 0, 0, 4, 49, 64, 60, 0, 29, 47, 46, 31, 30, 34, 61, 48, 32, 33, 0, 11] : List Nat).getD n 0, fun n => ([0, 0, 94, 72, 0, 0, 0, 0, 0, 25, 73, 0, 75, 0, 0, 0, 0, 0, 0, 5, 0, 0, 0, 0, 0, 0, 3, 0, 39, 0, 0, 0, 24, 0, 0, 0, 0, 0, 0, 0, 0, 0, 0, 0, 0, 0, 0, 0, 30, 31, 0, 0, 0, 0, 80, 0, 0, 0, 0, 0, 0, 0, 0, 0, 0, 22, 0] : List Nat).getD n 0, fun n => ([0, 0, 0, 0, 1, 2, 0, 0, 0, 0, 0, 0, 0, 0, 0, 0, 0, 0, 0, 0, 0, 0, 0, 0, 0, 0, 0, 0, 0, 0, 0, 0, 0, 0, 0, 0, 0, 0, 0, 0, 0, 0, 0, 0, 0, 0, 0, 0, 0, 0, 0, 0, 0, 0, 0, 0, 0, 0, 0, 0, 0, 0, 0, 0, 0, 0, 0] : List Nat).getD n 0⟩
theorem mix : Tryd.prog.follows .mixedOrders = true := by kernel_rfl
theorem is_rot : FnIs Tryd.prog 63 (c_rot ids) r_rot 2 := FnIs.mk' Tryd.func63 mix (by kernel_rfl) (by kernel_rfl) (by kernel_rfl)
theorem is_permute : FnIs Tryd.prog 58 (c_permute ids) r_permute 1 := FnIs.mk' Tryd.func58 mix (by kernel_rfl) (by kernel_rfl) (by kernel_rfl)
theorem is_absorb : FnIs Tryd.prog 43 (c_absorb ids) r_absorb 2 := FnIs.mk' Tryd.func43 mix (by kernel_rfl) (by kernel_rfl) (by kernel_rfl)
theorem is_write : FnIs Tryd.prog 20 (c_write ids) r_write 2 := FnIs.mk' Tryd.func20 mix (by kernel_rfl) (by kernel_rfl) (by kernel_rfl)
theorem is_hsum : FnIs Tryd.prog 22 (c_hsum ids) r_hsum 1 := FnIs.mk' Tryd.func22 mix (by kernel_rfl) (by kernel_rfl) (by kernel_rfl)
theorem is_knew : FnIs Tryd.prog 19 (c_knew ids) r_knew 0 := FnIs.mk' Tryd.func19 mix (by kernel_rfl) (by kernel_rfl) (by kernel_rfl)
theorem is_ksum : FnIs Tryd.prog 14 (c_ksum ids) r_ksum 1 := FnIs.mk' Tryd.func14 mix (by kernel_rfl) (by kernel_rfl) (by kernel_rfl)
theorem is_hlen : FnIs Tryd.prog 21 (c_hlen ids) r_hlen 1 := FnIs.mk' Tryd.func21 mix (by kernel_rfl) (by kernel_rfl) (by kernel_rfl)
theorem is_hcopy : FnIs Tryd.prog 23 (c_hcopy ids) r_hcopy 1 := FnIs.mk' Tryd.func23 mix (by kernel_rfl) (by kernel_rfl) (by kernel_rfl)
theorem is_hreset : FnIs Tryd.prog 28 (c_hreset ids) r_hreset 1 := FnIs.mk' Tryd.func28 mix (by kernel_rfl) (by kernel_rfl) (by kernel_rfl)
theorem is_text : FnIs Tryd.prog 24 (c_text ids) r_text 1 := FnIs.mk' Tryd.func24 mix (by kernel_rfl) (by kernel_rfl) (by kernel_rfl)
theorem is_awake : FnIs Tryd.prog 13 (c_awake ids) r_awake 0 := FnIs.mk' Tryd.func13 mix (by kernel_rfl) (by kernel_rfl) (by kernel_rfl)
theorem is_short : FnIs Tryd.prog 15 (c_short ids) r_short 1 := FnIs.mk' Tryd.func15 mix (by kernel_rfl) (by kernel_rfl) (by kernel_rfl)
theorem perm : PermSpec Tryd.prog ids 58 := permute_ok is_permute (rot_ok is_rot)
theorem absorb' : AbsorbSpec Tryd.prog ids 43 := absorb_ok is_absorb perm
theorem write' : WriteSpec Tryd.prog ids 20 := write_ok is_write absorb'
theorem hsum' : HSumSpec Tryd.prog ids 22 := hsum_ok is_hsum absorb'
theorem ksum' : KSumSpec Tryd.prog ids 14 := ksum_ok is_ksum (knew_ok is_knew) write' hsum'
theorem awake' : AwakeSpec Tryd.prog ids 13 := awake_ok is_awake ksum' (text_ok is_text)
theorem is_rotl : FnIs Tryd.prog 55 (c_rotl ids) r_rotl 2 := FnIs.mk' Tryd.func55 mix (by kernel_rfl) (by kernel_rfl) (by kernel_rfl)
theorem is_rturns : FnIs Tryd.prog 56 (c_rturns ids) r_rturns 0 := FnIs.mk' Tryd.func56 mix (by kernel_rfl) (by kernel_rfl) (by kernel_rfl)
theorem is_rrounds : FnIs Tryd.prog 40 (c_rrounds ids) r_rrounds 0 := FnIs.mk' Tryd.func40 mix (by kernel_rfl) (by kernel_rfl) (by kernel_rfl)
theorem is_rround : FnIs Tryd.prog 41 (c_rround ids) r_rround 2 := FnIs.mk' Tryd.func41 mix (by kernel_rfl) (by kernel_rfl) (by kernel_rfl)
theorem is_rpad : FnIs Tryd.prog 39 (c_rpad ids) r_rpad 1 := FnIs.mk' Tryd.func39 mix (by kernel_rfl) (by kernel_rfl) (by kernel_rfl)
theorem is_rsum : FnIs Tryd.prog 16 (c_rsum ids) r_rsum 1 := FnIs.mk' Tryd.func16 mix (by kernel_rfl) (by kernel_rfl) (by kernel_rfl)
theorem rsum' : RSumSpec Tryd.prog 16 := rsum_ok (ι := ids) is_rsum (rpad_ok is_rpad) (rrounds_ok is_rrounds) (rround_ok (ι := ids) is_rround (rturns_ok is_rturns) (rotl_ok is_rotl))
theorem is_rtext : FnIs Tryd.prog 26 (c_rtext ids) r_rtext 1 := FnIs.mk' Tryd.func26 mix (by kernel_rfl) (by kernel_rfl) (by kernel_rfl)
theorem is_rdigit : FnIs Tryd.prog 45 (c_rdigit ids) r_rdigit 1 := FnIs.mk' Tryd.func45 mix (by kernel_rfl) (by kernel_rfl) (by kernel_rfl)
theorem is_rparse : FnIs Tryd.prog 27 (c_rparse ids) r_rparse 1 := FnIs.mk' Tryd.func27 mix (by kernel_rfl) (by kernel_rfl) (by kernel_rfl)
theorem is_parse : FnIs Tryd.prog 25 (c_parse ids) r_parse 1 := FnIs.mk' Tryd.func25 mix (by kernel_rfl) (by kernel_rfl) (by kernel_rfl)
theorem is_idxb : FnIs Tryd.prog 44 (c_idxb ids) r_idxb 2 := FnIs.mk' Tryd.func44 mix (by kernel_rfl) (by kernel_rfl) (by kernel_rfl)
theorem libidx : LibIs Tryd.prog 59 Extern.BytealgIndexByte.indexByte := ⟨_, Tryd.func59, by kernel_rfl, by kernel_rfl, by kernel_rfl, by kernel_rfl⟩
theorem parse' : ParseSpec Tryd.prog 25 := parse_ok (ι := ids) is_parse (idxb_ok (ι := ids) is_idxb libidx)
theorem rparse' : RParseSpec Tryd.prog 27 := rparse_ok (ι := ids) is_rparse (rdigit_ok is_rdigit)
theorem text' : TextSpec Tryd.prog 24 := text_ok is_text
theorem rtext' : RTextSpec Tryd.prog 26 := rtext_ok is_rtext
theorem is_bcmp : FnIs Tryd.prog 42 (c_bcmp ids) r_bcmp 2 := FnIs.mk' Tryd.func42 mix (by kernel_rfl) (by kernel_rfl) (by kernel_rfl)
theorem is_cmp : FnIs Tryd.prog 17 (c_cmp ids) r_cmp 2 := FnIs.mk' Tryd.func17 mix (by kernel_rfl) (by kernel_rfl) (by kernel_rfl)
theorem is_rcmp : FnIs Tryd.prog 18 (c_rcmp ids) r_rcmp 2 := FnIs.mk' Tryd.func18 mix (by kernel_rfl) (by kernel_rfl) (by kernel_rfl)
theorem libcmp : LibIs Tryd.prog 57 Extern.BytealgCompare.compare := ⟨_, Tryd.func57, by kernel_rfl, by kernel_rfl, by kernel_rfl, by kernel_rfl⟩
theorem cmp' : CmpSpec Tryd.prog 17 := cmp_ok (ι := ids) is_cmp (bcmp_ok (ι := ids) is_bcmp libcmp)
theorem rcmp' : CmpSpec Tryd.prog 18 := rcmp_ok is_rcmp
theorem is_clone : FnIs Tryd.prog 49 (c_clone ids) r_clone 1 := FnIs.mk' Tryd.func49 mix (by kernel_rfl) (by kernel_rfl) (by kernel_rfl)
theorem is_reverse : FnIs Tryd.prog 64 (c_reverse ids) r_reverse 1 := FnIs.mk' Tryd.func64 mix (by kernel_rfl) (by kernel_rfl) (by kernel_rfl)
theorem is_groups : FnIs Tryd.prog 60 (c_groups ids) r_groups 1 := FnIs.mk' Tryd.func60 mix (by kernel_rfl) (by kernel_rfl) (by kernel_rfl)
theorem is_wnew : FnIs Tryd.prog 29 (c_wnew ids) r_wnew 0 := FnIs.mk' Tryd.func29 mix (by kernel_rfl) (by kernel_rfl) (by kernel_rfl)
theorem is_wraw : FnIs Tryd.prog 47 (c_wraw ids) r_wraw 2 := FnIs.mk' Tryd.func47 mix (by kernel_rfl) (by kernel_rfl) (by kernel_rfl)
theorem is_wuint : FnIs Tryd.prog 46 (c_wuint ids) r_wuint 2 := FnIs.mk' Tryd.func46 mix (by kernel_rfl) (by kernel_rfl) (by kernel_rfl)
theorem is_wbytes : FnIs Tryd.prog 31 (c_wbytes ids) r_wbytes 2 := FnIs.mk' Tryd.func31 mix (by kernel_rfl) (by kernel_rfl) (by kernel_rfl)
theorem is_wstring : FnIs Tryd.prog 30 (c_wstring ids) r_wstring 2 := FnIs.mk' Tryd.func30 mix (by kernel_rfl) (by kernel_rfl) (by kernel_rfl)
theorem is_wout : FnIs Tryd.prog 34 (c_wout ids) r_wout 1 := FnIs.mk' Tryd.func34 mix (by kernel_rfl) (by kernel_rfl) (by kernel_rfl)
theorem is_rput : FnIs Tryd.prog 61 (c_rput ids) r_rput 1 := FnIs.mk' Tryd.func61 mix (by kernel_rfl) (by kernel_rfl) (by kernel_rfl)
theorem is_rputbytes : FnIs Tryd.prog 48 (c_rputbytes ids) r_rputbytes 1 := FnIs.mk' Tryd.func48 mix (by kernel_rfl) (by kernel_rfl) (by kernel_rfl)
theorem is_tagged : FnIs Tryd.prog 32 (c_tagged ids) r_tagged 2 := FnIs.mk' Tryd.func32 mix (by kernel_rfl) (by kernel_rfl) (by kernel_rfl)
theorem is_rtagged : FnIs Tryd.prog 33 (c_rtagged ids) r_rtagged 2 := FnIs.mk' Tryd.func33 mix (by kernel_rfl) (by kernel_rfl) (by kernel_rfl)
theorem clone' : CloneSpec Tryd.prog 49 := clone_ok is_clone
theorem wraw' : WRawSpec Tryd.prog 47 := wraw_ok is_wraw
theorem wbytes' : WBytesSpec Tryd.prog 31 := wbytes_ok (ι := ids) is_wbytes (wuint_ok (ι := ids) is_wuint (groups_ok (ι := ids) is_groups (reverse_ok is_reverse)) wraw') wraw'
theorem wstring' : WStringSpec Tryd.prog 30 := wstring_ok (ι := ids) is_wstring wbytes'
theorem wout' : WOutSpec Tryd.prog 34 := wout_ok (ι := ids) is_wout clone'
theorem wnew' : WNewSpec Tryd.prog 29 := wnew_ok is_wnew
theorem tagged' : TaggedSpec Tryd.prog ids 32 := tagged_ok is_tagged wnew' wstring' wbytes' wout' ksum'
theorem rtagged' : TaggedSpec Tryd.prog ids 33 := rtagged_ok is_rtagged (rputb_ok (ι := ids) is_rputbytes (rput_ok is_rput)) rsum'
abbrev laid2 : List (String × DataW Unit) := [("arbac/keccak.rounds", Rows.laid_arbac_keccak_rounds), ("arbac/keccak.turns", Rows.laid_arbac_keccak_turns)]
theorem own : ownKnob Tryd.prog.godebug = none := by kernel_rfl
theorem gRounds : Tryd.prog.globalNamed "arbac/keccak.rounds" = some 1 := by kernel_rfl
theorem gTurns : Tryd.prog.globalNamed "arbac/keccak.turns" = some 2 := by kernel_rfl
theorem tRounds : (Tryd.prog.globals[1]?).map (·.type) = some 93 ∧ Tryd.prog.underlying 93 = some (.array 24 39) ∧ Tryd.prog.underlying 39 = some (.int .u64) ∧ Tryd.prog.cellsOf 39 = 1 ∧ Tryd.prog.cellsOf 93 = 24 := ⟨by kernel_rfl, by kernel_rfl, by kernel_rfl, by kernel_rfl, by kernel_rfl⟩
theorem tTurns : (Tryd.prog.globals[2]?).map (·.type) = some 95 ∧ Tryd.prog.underlying 95 = some (.array 25 3) ∧ Tryd.prog.underlying 3 = some (.int .i64) ∧ Tryd.prog.cellsOf 3 = 1 ∧ Tryd.prog.cellsOf 95 = 25 := ⟨by kernel_rfl, by kernel_rfl, by kernel_rfl, by kernel_rfl, by kernel_rfl⟩
theorem dRounds : (Rows.laid_arbac_keccak_rounds : DataW Unit) = .agg ((roundsL.map fun x => (x.toNat : Int)).map fun x => .lit (.int .u64 x)) := rfl
theorem dTurns : (Rows.laid_arbac_keccak_turns : DataW Unit) = .agg ((turnsL.map fun (x : Nat) => (x : Int)).map fun x => .lit (.int .i64 x)) := rfl
theorem of_laid {W : World} (h : laidMetH Tryd.prog laid2 W) : GlobOk ids W.heap := by
  rw [MakeChecks.laidMetH_plain _ _ _ (by kernel_rfl)] at h
  obtain ⟨ps, ⟨g0, t0, cs0, f0, p0, q0, hg0, ht0, hv0, hd0, ⟨g1, t1, cs1, f1, p1, q1, hg1, ht1, hv1, hd1, rfl, rfl⟩, rfl⟩, _, hz⟩ := h
  obtain rfl := Option.some.inj (gRounds.symm.trans hg0)
  obtain rfl := Option.some.inj (gTurns.symm.trans hg1)
  obtain ⟨a0, b0, c0, d0, i0⟩ := tRounds
  obtain ⟨a1, b1, c1, d1, i1⟩ := tTurns
  obtain rfl := Option.some.inj (a0.symm.trans ht0)
  obtain rfl := Option.some.inj (a1.symm.trans ht1)
  have hz' : ∀ b off, MemPlace.cell b off ∈ _ → ∃ c t, W.heap[b]? = some (.cells c t (0, 0)) := fun b off h => (hz b off h).1
  have r0 := bl_of_var hg0 hv0 hd0 dRounds b0 c0 d0 i0 rfl (by omega) (fun x hx => by simp only [List.mem_append]; exact .inl (.inl hx)) hz'
  have r1 := bl_of_var hg1 hv1 hd1 dTurns b1 c1 d1 i1 rfl (by omega) (fun x hx => by simp only [List.mem_append]; exact .inr (.inl (.inl hx))) hz'
  simp only [List.map_map] at r0 r1
  exact ⟨r0, r1⟩
theorem door_met (os : Os) (args : Array Value) : laidMetH Tryd.prog laid2 ((World.doorLaid Tryd.prog 4000 os).forCall (fun _ _ => 0) ⟨#[], args, []⟩).memory :=
  laidMetH_of_parts3 (fuel := 8) (laidMet_of_run' 8 (by kernel_rfl) (by kernel_rfl)) (by kernel_rfl) (by kernel_rfl)
theorem laidOut : laidOutB Tryd.prog = true := by kernel_rfl
theorem uBool : Tryd.prog.underlying 4 = some .bool := by kernel_rfl
theorem cByte : Tryd.prog.cellsOf 5 = 1 := by kernel_rfl
theorem u32 : Tryd.prog.underlying 24 = some (.array 32 5) := by kernel_rfl
theorem c32 : Tryd.prog.cellsOf 24 = 32 := by kernel_rfl
theorem u96 : Tryd.prog.underlying 30 = some (.array 3 24) := by kernel_rfl
theorem c96 : Tryd.prog.cellsOf 30 = 3 * 32 := by kernel_rfl
theorem u2 : Tryd.prog.underlying 31 = some (.array 2 5) := by kernel_rfl
theorem c2 : Tryd.prog.cellsOf 31 = 2 := by kernel_rfl
theorem uSl : Tryd.prog.underlying 22 = some (.slice 5) := by kernel_rfl
theorem cSl : Tryd.prog.cellsOf 22 = 1 := by kernel_rfl
theorem uByte : Tryd.prog.underlying 5 = some (.int .u8) := by kernel_rfl
end Go.Proofs.YthffkklaodanaaaDoor
