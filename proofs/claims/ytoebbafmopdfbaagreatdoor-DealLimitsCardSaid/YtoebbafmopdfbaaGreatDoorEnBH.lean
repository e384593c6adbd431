/- A part of the proofs that a law function returns true at every input; it has no condition of its own. -/
import Derived.Test.YtoebbafmopdfbaaGreatDoorEnBG
set_option linter.unusedSimpArgs false
set_option linter.unusedVariables false
/- EnBH: The engine's laws: what the laws on snaps ask first. -/
namespace Go.Ab.En
open Go Go.Conc Go.RowKit Go.Ab
set_option maxRecDepth 10000
theorem hI1 : ∀ w e, (loneJ pp).Ok w e := fun _ _ => trivial
theorem L_left : RC (loneJ pp) 140 S140 := rc140 hI1 (rc47 hI1 rc105)
theorem L_file : RC (loneJ pp) 75 SFile := rcFile hI1 rcItoa rcRep
theorem L_names : RC (loneJ pp) 179 SNames := rcNames hI1 rcKeys rcSrt
theorem L_open : RC (loneJ pp) 16 SMade := rcOpen0 hI1 (rcMade hI1 L_names L_file L_left rc82)
theorem L_new : RC (loneJ pp) 17 S17 := rc17 hI1
theorem L_do : RC (loneJ pp) 18 SDo := rcDo hI1 rcCs rcSortW rc82 L_file L_left
theorem L_of : RC (loneJ pp) 19 SOf := rcOf hI1
theorem L_scan : RC (loneJ pp) 42 SScan := rcScan hI1 rcCs (rcBet0 hI1) (rcHRange hI1 rcCs) (rcVis hI1 rcCs)
theorem L_sget : RC (loneJ pp) 57 SSnGet := rcSnGet hI1 rcCs
theorem L_sscan : RC (loneJ pp) 58 SSnScan := rcSnScan hI1 L_scan
theorem L_schg : RC (loneJ pp) 21 SSnChg := rcSnChg hI1 rcCs
theorem L_smov : RC (loneJ pp) 20 SSnMov := rcSnMov hI1 L_scan
theorem L_sclose : RC (loneJ pp) 59 SSnClose := rcSnClose hI1
theorem L_sseq : RC (loneJ pp) 60 SSnSeq := rcSnSeq hI1
noncomputable def b15 : Code := (Go.Proofs.Tryz.f15.body).getD .skip
theorem hb15 : Go.Proofs.Tryz.f15.body = some b15 := by kernel_rfl
def wA (c : UInt8) : List Wr := [⟨[97], false, [c]⟩]
def eA1 : List Ent := [⟨[97], 1, false, [120]⟩]
def eA2 : List Ent := [⟨[97], 2, false, [121]⟩, ⟨[97], 1, false, [120]⟩]
theorem eA1_eq : (entsB ((0 + 1 : Nat) : Int) (wA 120)).foldl putE [] = eA1 := by decide +kernel
theorem eA2_eq : (entsB ((1 + 1 : Nat) : Int) (wA 121)).foldl putE eA1 = eA2 := by decide +kernel
/-- It holds (what it leaves is not told: it is asked first). -/
def SKn : Spec := fun _ args K => args = [] ∧ ∀ H', K H' (.bool true)
set_option maxHeartbeats 4000000 in
theorem rcKn : RC (loneJ pp) 15 SKn := by
  have hI := hI1
  refine rc_of_code (isObj := noO) (Γ := envOf [(17, S17), (16, SMade), (18, SDo), (19, SOf), (57, SSnGet), (21, SSnChg), (20, SSnMov), (58, SSnScan), (59, SSnClose), (60, SSnSeq)]) (rs := [0]) mixed hI (envOf_rc (by simpa using ⟨L_new, L_open, L_do, L_of, L_sget, L_schg, L_smov, L_sscan, L_sclose, L_sseq⟩)) Go.Proofs.Tryz.func15 (by kernel_rfl) hb15 Go.Proofs.Tryz.results15 Go.Proofs.Tryz.ntmps15 (by decide) ?_
  rintro H args K ⟨rfl, hK⟩
  refine ⟨by simp, rfl, ?_⟩
  unfold b15 Go.Proofs.Tryz.f15
  simp only [List.append_eq, List.cons_append, List.nil_append, Option.getD_some, argSlots, w_seq, BZ1, constDV, dropLk, BZ2, Nat.reduceEqDiff, if_false, if_true, List.all_cons, List.all_nil, Bool.and_self, List.map_cons, List.map_nil, true_and]
  refine capp17 fun H1 f1 l1 s1 => ?_
  simp only [BZ1, BZ2, Pos.isHp, List.filter_nil, mk_put?_some, dropLk, Nat.reduceLT, Nat.reduceEqDiff, if_false, if_true, List.all_cons, List.all_nil, Bool.and_self, List.map_cons, List.map_nil, true_and]
  refine appMadeX s1 (by decide) fun H2 E f2 a2 g2 es2 hd2 => ?_
  obtain ⟨x, hx⟩ : ∃ x, E.x = x := ⟨_, rfl⟩
  simp only [hx, BZ1, BZ2, Pos.isHp, List.filter_nil, mk_put?_some, dropLk, Nat.reduceLT, movK, BZ3, List.map_cons, List.map_nil, extK, Nat.reduceBEq, takK, w_seq, Bool.false_eq_true, constDV, ne_eq, not_true_eq_false, decide_false, gs2_ff, p_eql Go.Proofs.Tryz.underlying23, if_false, cd_f, bd32, bd32_0, List.length_cons, List.length_nil, Nat.zero_add, Nat.reduceAdd, Nat.reduceLeDiff, List.all_cons, List.all_nil, Bool.and_self, List.take_zero, List.nil_append, List.drop_succ_cons, List.drop_zero, List.cons_append, bd32_2, List.take_succ_cons, List.drop_nil, List.append_nil, bs33_1, isO_eq, beq_self_eq_true, Nat.reduceEqDiff, if_true, true_and]
  refine appDoX (wA 120) hx a2 g2 (by omega) (.inl ⟨_, rfl⟩) (by decide) (by decide +kernel) fun H3 E3 f3 hx3 a3 g3 es3 hd3 al3 => ?_
  rw [es2, show neatW (wA 120) = wA 120 from rfl, eA1_eq] at es3
  rw [hd2] at hd3
  simp only [Nat.zero_add, nc1, BZ1, BZ2, Pos.isHp, List.filter_nil, mk_put?_some, dropLk, w_seq, Nat.reduceLT, movK, Nat.reduceBEq, Nat.reduceEqDiff, if_false, if_true, List.all_cons, List.all_nil, Bool.and_self, List.map_cons, List.map_nil, true_and]
  refine appOfX hx3 a3 g3 hd3 (by decide) (by decide) fun H4 E4 s f4 hx4 a4 g4 es4 hd4 al4 sn4 ls4 hs4 => ?_
  simp only [BZ1, BZ2, Pos.isHp, List.filter_nil, mk_put?_some, dropLk, Nat.reduceLT, takK, w_seq, movK, BZ3, Bool.false_eq_true, constDV, p_eql Go.Proofs.Tryz.underlying34, cd_f, Nat.reduceBEq, bd32, bd32_0, List.length_cons, List.length_nil, Nat.zero_add, Nat.reduceAdd, Nat.reduceLeDiff, List.all_cons, List.all_nil, Bool.and_self, List.take_zero, List.nil_append, List.drop_succ_cons, List.drop_zero, List.cons_append, bd32_2, List.take_succ_cons, List.drop_nil, List.append_nil, bs33_1, isO_eq, List.map_cons, List.map_nil, beq_self_eq_true, Nat.reduceEqDiff, if_false, if_true, true_and]
  refine appDoX (wA 121) hx4 a4 g4 (by omega) (.inl ⟨_, rfl⟩) (by decide) (by decide +kernel) fun H5 E5 f5 hx5 a5 g5 es5 hd5 al5 => ?_
  rw [es4, es3, show neatW (wA 121) = wA 121 from rfl, eA2_eq] at es5
  rw [hd4] at hd5
  have hs4' : s ∉ E4.all := fun h => by rw [al4] at h; have := a3.allLt s h; omega
  have hs5 : s ∉ E5.all := fun h => by rcases al5 s h with h | h; exact hs4' h; omega
  have sn5 := sn4.fr f5 hs4'
  have q1 : seenE E5.es [97] (min ((0 + 1 : Nat) : Int) ((0 + 1 + 1 : Nat) : Int)) = some [120] := by rw [es5]; decide +kernel
  have q2 : (!decide (seenE E5.es [97] (min ((0 + 1 : Nat) : Int) ((0 + 1 + 1 : Nat) : Int)) = seenE E5.es [97] ((0 + 1 + 1 : Nat) : Int))) = true := by rw [es5]; decide +kernel
  have q3 : (!decide (seenE E5.es [98] (min ((0 + 1 : Nat) : Int) ((0 + 1 + 1 : Nat) : Int)) = seenE E5.es [98] ((0 + 1 + 1 : Nat) : Int))) = false := by rw [es5]; decide +kernel
  have q4 : (!decide (scanE E5.es [] [] (min ((0 + 1 : Nat) : Int) ((0 + 1 + 1 : Nat) : Int)) = scanE E5.es [] [] ((0 + 1 + 1 : Nat) : Int))) = true := by rw [es5]; decide +kernel
  have q5 : scanE E5.es [] [] (min ((0 + 1 : Nat) : Int) ((0 + 1 + 1 : Nat) : Int)) = [⟨[97], [120]⟩] := by rw [es5]; decide +kernel
  simp only [Nat.zero_add, Nat.reduceAdd, nc2, BZ1, BZ2, Pos.isHp, List.filter_nil, mk_put?_some, dropLk, w_seq, Nat.reduceLT, movK, Nat.reduceBEq, constDV, Nat.reduceEqDiff, if_false, if_true, List.all_cons, List.all_nil, Bool.and_self, List.map_cons, List.map_nil, true_and]
  refine appSnGetX hx5 sn5 a5 g5 (by omega) fun H6 v f6 hv6 => ?_
  obtain rfl : v = [120] := by
    have := hv6 (by rw [q1]; rfl)
    rw [q1] at this
    simpa using this.symm
  rw [q1]
  simp only [Option.isSome_some, BZ1, BZ2, Pos.isHp, List.filter_nil, mk_put?_some, dropLk, Nat.reduceLT, movK, BZ3, List.map_cons, List.map_nil, extK, Nat.reduceBEq, takK, w_seq, constDV, Nat.reduceEqDiff, if_false, if_true, List.all_cons, List.all_nil, Bool.and_self, true_and]
  have a6 := a5.fr0 f6
  have sn6 := sn5.fr f6 (by simp)
  refine appSnChgX hx5 sn6 a6 g5 (by omega) fun H7 f7 => ?_
  rw [q2]
  simp only [BZ1, BZ2, Pos.isHp, List.filter_nil, mk_put?_some, dropLk, Nat.reduceLT, movK, BZ3, List.map_cons, List.map_nil, extK, Nat.reduceBEq, takK, w_seq, constDV, Nat.reduceEqDiff, if_false, if_true, List.all_cons, List.all_nil, Bool.and_self, true_and]
  have a7 := a6.fr0 f7
  have sn7 := sn6.fr f7 (by simp)
  refine appSnChgX hx5 sn7 a7 g5 (by omega) fun H8 f8 => ?_
  rw [q3]
  simp only [BZ1, BZ2, Pos.isHp, List.filter_nil, mk_put?_some, dropLk, Nat.reduceLT, movK, BZ3, List.map_cons, List.map_nil, extK, Nat.reduceBEq, takK, w_seq, constDV, Nat.reduceEqDiff, if_false, if_true, List.all_cons, List.all_nil, Bool.and_self, true_and]
  have a8 := a7.fr0 f8
  have sn8 := sn7.fr f8 (by simp)
  refine appSnMovX hx5 sn8 a8 g5 (by omega) fun H9 f9 => ?_
  rw [q4]
  simp only [BZ1, BZ2, Pos.isHp, List.filter_nil, mk_put?_some, dropLk, Nat.reduceLT, movK, BZ3, List.map_cons, List.map_nil, extK, Nat.reduceBEq, takK, w_seq, constDV, Nat.reduceEqDiff, if_false, if_true, List.all_cons, List.all_nil, Bool.and_self, true_and]
  have a9 := a8.fr0 f9
  have sn9 := sn8.fr f9 (by simp)
  refine appSnScanX hx5 sn9 a9 g5 (by omega) fun H10 f10 => ?_
  rw [q5]
  simp only [List.map_cons, List.map_nil, BZ1, BZ2, Pos.isHp, List.filter_nil, mk_put?_some, dropLk, Nat.reduceLT, movK, BZ3, extK, Nat.reduceEqDiff, Nat.zero_add, if_false, Nat.reduceBEq, Pos.atSlot, Bool.or_self, Bool.false_eq_true, takK, lkGet, if_true, pt1, ownSz_f, reduceCtorEq, w_seq, List.all_cons, List.all_nil, Bool.and_self, true_and]
  have a10 := a9.fr0 f10
  have sn10 := sn9.fr f10 (by simp)
  refine appSnCloseX hx5 sn10 a10 g5 hs5 hd5 (by decide) (by decide) fun H11 E11 f11 hx11 a11 g11 es11 hd11 al11 sn11 => ?_
  simp only [BZ1, BZ2, Pos.isHp, List.filter_nil, mk_put?_some, dropLk, w_seq, Nat.reduceLT, movK, Nat.reduceBEq, constDV, Nat.reduceEqDiff, if_false, if_true, List.all_cons, List.all_nil, Bool.and_self, List.map_cons, List.map_nil, true_and]
  refine appSnGetO hx11 sn11 a11 g11 (by omega) ?_
  simp only [BZ1, BZ2, Pos.isHp, List.filter_nil, mk_put?_some, dropLk, Nat.reduceLT, movK, BZ3, List.map_cons, List.map_nil, extK, Nat.reduceBEq, takK, w_seq, gs2_tt, Bool.false_eq_true, constDV, decide_true, if_true, Bool.not_false, lkGet, dl64, List.length_cons, List.length_nil, Nat.zero_add, Nat.reduceEqDiff, if_false, List.all_cons, List.all_nil, Bool.and_self, true_and]
  refine ⟨s, x, _, true, rfl, sn11, ?_⟩
  simp only [Nat.zero_add, BZ3, BZ1, BZ2, Pos.isHp, List.filter_nil, mk_put?_some, dropLk, Nat.reduceLT, Nat.reduceBEq, gs2_tt, Bool.false_eq_true, constDV, decide_true, if_true, movK, takK, true_and, if_false]
  exact hK H11
end Go.Ab.En
