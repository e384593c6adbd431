/- A part of the proofs that a law function returns true at every input; it has no condition of its own. -/
import Derived.Test.YtcljbddnnnbihaaShR5
set_option linter.unusedSimpArgs false
set_option linter.unusedVariables false
/- ShR6: The reference shelf: methods, on. -/
namespace Go.Ab.Sh
open Go Go.Conc Go.RowKit Go.Ab
set_option maxRecDepth 10000
def raddC (l : Files) (most : Int) (nm b : Str) : Int := if findI l nm < 0 then 14 else if max (most - usedF l) 0 < b.length then 15 else 0
noncomputable def b15 : Code := (Go.Proofs.Try.f15.body).getD .skip
theorem hb15 : Go.Proofs.Try.f15.body = some b15 := by kernel_rfl
/-- ref's Add. -/
def S15 : Spec := fun H args K => ∃ id l kept acts most nm b, args = [.ptr id 0, .str nm, .str b] ∧ RefAt H id l kept acts most ∧ l.length < 100000 ∧ usedF l < 4611686018427387904 ∧ 0 ≤ most ∧ most < 4611686018427387904 ∧ acts.length < 100000 ∧ b.length < 4611686018427387904 ∧
  K (if raddC l most nm b = 0 then rdoH H id l kept acts most ⟨2, nm, b⟩ else H) (.int .i64 (raddC l most nm b))
theorem rc15 {I : Jd pp} (hI : ∀ w e, I.Ok w e) : RC I 15 S15 := by
  refine rc_of_code (isObj := isO) (Γ := envOf [(38, S38), (39, S39), (40, S40)]) (rs := [6]) mixed hI (envOf_rc (by simpa using ⟨rc38 hI, rc39 hI, rc40 hI⟩)) Go.Proofs.Try.func15 (by kernel_rfl) hb15 Go.Proofs.Try.results15 Go.Proofs.Try.ntmps15 (by decide) ?_
  rintro H args K ⟨id, l, kept, acts, most, nm, b, rfl, hs, h5, h6, h7, h8, h9, h11, hK⟩
  have h1 : H[id]? = some (.cells (refC l kept acts most)) := hs
  refine ⟨by simp, rfl, ?_⟩
  unfold b15 Go.Proofs.Try.f15
  simp only [Option.getD_some, argSlots, DV.ro, Nat.zero_add, Nat.reduceAdd, w_seq, w_region, mk_clean, tS_cons, g_none, hold_app, o_assign, take_const, constDV, mk_put, dropLk, tS_nil, hold_app2, w_block, o_move, Nat.reduceLT, move_tmp, movK, Nat.reduceBEq, look_miss, look_hit, DV.roA, o_nilCheck, dnil, rho_tmp, mk_put?_some, o_fieldAddr, fp61_0, Nat.add_zero, o_load, ld_h, h1, refC, dlh_some, List.drop_zero, la58, lo_sl, addrPos, ia58, Bool.false_eq_true, if_false, Pos.atSlot, Bool.or_false, o_fn, args_cons, args_nil, mk_H, env_cons, Nat.reduceEqDiff, if_true, dcl_some, List.all_cons, DV.flat, List.all_nil, Bool.and_self, List.map_cons, List.map_nil, true_and]
  refine app38 (by omega) ?_
  simp only [hold_app2, mk_called, Pos.isHp, List.filter_cons, Bool.not_true, Bool.false_eq_true, List.filter_nil, if_false, mk_put?_some, dropLk, hold_app, tS_cons, g_none, o_bin, nil_int, Nat.reduceLT, rho_tmp, look_hit, rho_const, constDV, b_lss, o_assign, take_tmp, takK, DV.roA, DV.ro, mk_put, tS_nil, w_cond, cd, decide_eq_true_eq, w_seq, w_region, mk_clean, take_const, w_ret, ret_one, DV.flat, true_and, decide_eq_false_iff_not, o_move, move_tmp, movK, Nat.reduceBEq, look_miss, o_len, dl9, o_fn, args_cons, args_nil, mk_H, env_cons, Nat.reduceEqDiff, if_true, dcl_some, List.all_cons, List.all_nil, Bool.and_self, List.map_cons, List.map_nil]
  refine ⟨fun e2 => by simpa [raddC, e2] using hK, fun e2 => ?_⟩
  refine app39 hs (by omega) h6 h7 h8 ?_
  simp only [hold_app2, mk_called, Pos.isHp, List.filter_nil, mk_put?_some, dropLk, hold_app, tS_cons, g_none, o_bin, nil_tmp, Bool.false_eq_true, Nat.reduceLT, rho_tmp, Nat.reduceBEq, look_miss, look_hit, b_gtr, o_assign, take_tmp, takK, DV.roA, DV.ro, mk_put, tS_nil, w_cond, cd, decide_eq_true_eq, w_seq, w_region, mk_clean, take_const, constDV, w_ret, ret_one, DV.flat, true_and, decide_eq_false_iff_not, w_skip, o_move, move_tmp, movK, bd69, bd69_0, bdk_eq, DV.cells, List.length_cons, List.length_nil, Nat.zero_add, Nat.reduceAdd, Nat.reduceLeDiff, List.all_cons, DV.scalar, List.all_nil, Bool.and_self, putAt_eq, List.take_zero, List.nil_append, List.drop_succ_cons, List.drop_zero, List.cons_append, bd69_1, List.take_succ_cons, bd69_2, List.drop_nil, List.append_nil, bd_nil, o_fn, args_cons, args_nil, mk_H, env_cons, Nat.reduceEqDiff, if_true, if_false, dcl_some, List.map_cons, DV.ro1, List.map_nil]
  refine ⟨fun e4 => ?_, fun e4 => ?_⟩
  · have e5 : raddC l most nm b = 15 := by simp only [raddC, if_neg e2, if_pos e4]
    simpa [e5] using hK
  · have e5 : raddC l most nm b = 0 := by simp only [raddC, if_neg e2, if_neg e4]
    refine app40 ⟨2, nm, b⟩ hs h5 h9 (by intro _; simp only; omega) (by have := atD_used l (findI l nm); simp only; omega) ?_
    simp only [hold_app2, mk_called, Pos.isHp, List.filter_nil, mk_put?_some, dropLk, hold_app, tS_nil, w_seq, w_region, mk_clean, tS_cons, g_none, o_assign, take_const, constDV, mk_put, w_ret, Nat.reduceLT, ret_one, DV.flat, look_hit, true_and]
    simpa [e5, rdoH] using hK
def rswapC (l : Files) (old nm : Str) : Int := if namedF nm = false then 10 else if findI l old < 0 then 14 else 0
noncomputable def b17 : Code := (Go.Proofs.Try.f17.body).getD .skip
theorem hb17 : Go.Proofs.Try.f17.body = some b17 := by kernel_rfl
/-- ref's Swap. -/
def S17 : Spec := fun H args K => ∃ id l kept acts most old nm, args = [.ptr id 0, .str old, .str nm] ∧ RefAt H id l kept acts most ∧ l.length < 100000 ∧ usedF l < 4611686018427387904 ∧ acts.length < 100000 ∧ nm.length < 4611686018427387904 ∧
  K (if rswapC l old nm = 0 then rdoH H id l kept acts most ⟨3, old, nm⟩ else H) (.int .i64 (rswapC l old nm))
theorem rc17 {I : Jd pp} (hI : ∀ w e, I.Ok w e) : RC I 17 S17 := by
  refine rc_of_code (isObj := isO) (Γ := envOf [(37, S37), (38, S38), (40, S40)]) (rs := [6]) mixed hI (envOf_rc (by simpa using ⟨rc37 hI, rc38 hI, rc40 hI⟩)) Go.Proofs.Try.func17 (by kernel_rfl) hb17 Go.Proofs.Try.results17 Go.Proofs.Try.ntmps17 (by decide) ?_
  rintro H args K ⟨id, l, kept, acts, most, old, nm, rfl, hs, h5, h6, h9, h10, hK⟩
  have h1 : H[id]? = some (.cells (refC l kept acts most)) := hs
  refine ⟨by simp, rfl, ?_⟩
  unfold b17 Go.Proofs.Try.f17
  simp only [Option.getD_some, argSlots, DV.ro, Nat.zero_add, Nat.reduceAdd, w_seq, w_region, mk_clean, tS_cons, g_none, hold_app, o_assign, take_const, constDV, mk_put, dropLk, tS_nil, hold_app2, w_block, o_move, Nat.reduceLT, move_tmp, movK, Nat.reduceBEq, look_miss, look_hit, DV.roA, o_fn, args_cons, rho_tmp, args_nil, mk_H, env_cons, Nat.reduceEqDiff, if_false, if_true, dcl_some, List.all_cons, DV.flat, List.all_nil, Bool.and_self, List.map_cons, List.map_nil, true_and]
  refine app37 h10 ?_
  simp only [hold_app2, mk_called, Pos.isHp, List.filter_nil, mk_put?_some, dropLk, hold_app, tS_cons, g_none, o_un, Nat.reduceLT, rho_tmp, look_hit, u_not, o_assign, take_tmp, takK, DV.roA, DV.ro, mk_put, tS_nil, w_cond, cd, Bool.not_eq_true', w_seq, w_region, mk_clean, take_const, constDV, w_ret, ret_one, DV.flat, true_and, Bool.not_eq_false', o_move, move_tmp, movK, Nat.reduceBEq, look_miss, o_nilCheck, dnil, o_fieldAddr, fp61_0, Nat.add_zero, o_load, ld_h, h1, refC, dlh_some, List.drop_zero, la58, lo_sl, addrPos, ia58, Bool.false_eq_true, if_false, Pos.atSlot, Bool.or_false, o_fn, args_cons, args_nil, mk_H, env_cons, Nat.reduceEqDiff, if_true, dcl_some, List.all_cons, List.all_nil, Bool.and_self, List.map_cons, List.map_nil]
  refine ⟨fun e => by simpa [rswapC, e] using hK, fun e1 => ?_⟩
  refine app38 (by omega) ?_
  simp only [hold_app2, mk_called, Pos.isHp, List.filter_cons, Bool.not_true, Bool.false_eq_true, List.filter_nil, if_false, mk_put?_some, dropLk, hold_app, tS_cons, g_none, o_bin, nil_int, Nat.reduceLT, rho_tmp, look_hit, rho_const, constDV, b_lss, o_assign, take_tmp, takK, DV.roA, DV.ro, mk_put, tS_nil, w_cond, cd, decide_eq_true_eq, w_seq, w_region, mk_clean, take_const, w_ret, ret_one, DV.flat, true_and, decide_eq_false_iff_not, w_skip, o_move, move_tmp, movK, Nat.reduceBEq, look_miss, bd69, bd69_0, bdk_eq, DV.cells, List.length_cons, List.length_nil, Nat.zero_add, Nat.reduceAdd, Nat.reduceLeDiff, List.all_cons, DV.scalar, List.all_nil, Bool.and_self, putAt_eq, List.take_zero, List.nil_append, List.drop_succ_cons, List.drop_zero, List.cons_append, bd69_1, List.take_succ_cons, bd69_2, List.drop_nil, List.append_nil, bd_nil, o_fn, args_cons, args_nil, mk_H, env_cons, Nat.reduceEqDiff, if_true, dcl_some, List.map_cons, DV.ro1, List.map_nil]
  refine ⟨fun e2 => by simpa [rswapC, e1, e2] using hK, fun e2 => ?_⟩
  have e5 : rswapC l old nm = 0 := by simp [rswapC, e1, e2]
  refine app40 ⟨3, old, nm⟩ hs h5 h9 (by intro _; simp only; omega) (by have := atD_used l (findI l old); simp only; omega) ?_
  simp only [hold_app2, mk_called, Pos.isHp, List.filter_nil, mk_put?_some, dropLk, hold_app, tS_nil, w_seq, w_region, mk_clean, tS_cons, g_none, o_assign, take_const, constDV, mk_put, w_ret, Nat.reduceLT, ret_one, DV.flat, look_hit, true_and]
  simpa [e5, rdoH] using hK
def rdropC (l : Files) (nm : Str) : Int := if findI l nm < 0 then 14 else 0
noncomputable def b19 : Code := (Go.Proofs.Try.f19.body).getD .skip
theorem hb19 : Go.Proofs.Try.f19.body = some b19 := by kernel_rfl
/-- ref's Drop. -/
def S19 : Spec := fun H args K => ∃ id l kept acts most nm, args = [.ptr id 0, .str nm] ∧ RefAt H id l kept acts most ∧ l.length < 100000 ∧ usedF l < 4611686018427387904 ∧ acts.length < 100000 ∧
  K (if rdropC l nm = 0 then rdoH H id l kept acts most ⟨4, nm, []⟩ else H) (.int .i64 (rdropC l nm))
theorem rc19 {I : Jd pp} (hI : ∀ w e, I.Ok w e) : RC I 19 S19 := by
  refine rc_of_code (isObj := isO) (Γ := envOf [(38, S38), (40, S40)]) (rs := [4]) mixed hI (envOf_rc (by simpa using ⟨rc38 hI, rc40 hI⟩)) Go.Proofs.Try.func19 (by kernel_rfl) hb19 Go.Proofs.Try.results19 Go.Proofs.Try.ntmps19 (by decide) ?_
  rintro H args K ⟨id, l, kept, acts, most, nm, rfl, hs, h5, h6, h9, hK⟩
  have h1 : H[id]? = some (.cells (refC l kept acts most)) := hs
  refine ⟨by simp, rfl, ?_⟩
  unfold b19 Go.Proofs.Try.f19
  simp only [Option.getD_some, argSlots, DV.ro, Nat.zero_add, w_seq, w_region, mk_clean, tS_cons, g_none, hold_app, o_assign, take_const, constDV, mk_put, dropLk, tS_nil, hold_app2, o_move, Nat.reduceLT, move_tmp, movK, Nat.reduceBEq, look_miss, look_hit, DV.roA, o_nilCheck, dnil, rho_tmp, mk_put?_some, o_fieldAddr, fp61_0, Nat.add_zero, o_load, ld_h, h1, refC, dlh_some, List.drop_zero, la58, lo_sl, addrPos, ia58, Bool.false_eq_true, if_false, Pos.atSlot, Bool.or_false, o_fn, args_cons, args_nil, mk_H, env_cons, Nat.reduceEqDiff, if_true, dcl_some, List.all_cons, DV.flat, List.all_nil, Bool.and_self, List.map_cons, List.map_nil, true_and]
  refine app38 (by omega) ?_
  simp only [hold_app2, mk_called, Pos.isHp, List.filter_cons, Bool.not_true, Bool.false_eq_true, List.filter_nil, if_false, mk_put?_some, dropLk, hold_app, tS_cons, g_none, o_bin, nil_int, Nat.reduceLT, rho_tmp, look_hit, rho_const, constDV, b_lss, tS_nil, w_cond, cd, decide_eq_true_eq, w_seq, w_region, mk_clean, o_assign, take_const, mk_put, w_ret, ret_one, DV.flat, true_and, decide_eq_false_iff_not, w_skip, o_move, move_tmp, movK, Nat.reduceBEq, look_miss, DV.roA, DV.ro, bd69, bd69_0, bdk_eq, DV.cells, List.length_cons, List.length_nil, Nat.zero_add, Nat.reduceAdd, Nat.reduceLeDiff, List.all_cons, DV.scalar, List.all_nil, Bool.and_self, putAt_eq, List.take_zero, List.nil_append, List.drop_succ_cons, List.drop_zero, List.cons_append, bd69_1, take_tmp, takK, List.take_succ_cons, bd69_2, List.drop_nil, List.append_nil, bd_nil, o_fn, args_cons, args_nil, mk_H, env_cons, Nat.reduceEqDiff, if_true, dcl_some, List.map_cons, DV.ro1, List.map_nil]
  refine ⟨fun e2 => by simpa [rdropC, e2] using hK, fun e2 => ?_⟩
  have e5 : rdropC l nm = 0 := by simp [rdropC, e2]
  refine app40 ⟨4, nm, []⟩ hs h5 h9 (by simp) (by have := atD_used l (findI l nm); simp; omega) ?_
  simp only [hold_app2, mk_called, Pos.isHp, List.filter_nil, mk_put?_some, dropLk, hold_app, tS_nil, w_seq, w_region, mk_clean, tS_cons, g_none, o_assign, take_const, constDV, mk_put, w_ret, Nat.reduceLT, ret_one, DV.flat, look_hit, true_and]
  simpa [e5, rdoH] using hK
end Go.Ab.Sh
