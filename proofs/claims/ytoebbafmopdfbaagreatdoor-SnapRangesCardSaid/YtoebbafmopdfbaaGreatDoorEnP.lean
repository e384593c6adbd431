/- A part of the proofs that a law function returns true at every input; it has no condition of its own. -/
import Derived.Test.YtoebbafmopdfbaaGreatDoorEnSK
set_option linter.unusedSimpArgs false
set_option linter.unusedVariables false
/- EnP: The engine's laws: a sheet without tables. -/
namespace Go.Ab.En
open Go Go.Conc Go.RowKit Go.Ab
set_option maxRecDepth 10000
def isT : ObjT := fun t => t == 191
theorem isT_eq {t : TypeId} : isT t = (t == 191) := _root_.id rfl
/-- A sheet without tables. -/
def Sheet0 (H : List HObj) (sp : Nat) (log seq next : Int) : Prop := H[sp]? = some (.cells [.sl true 5 [], .int .i64 log, .int .i64 seq, .int .i64 next])
noncomputable def b123 : Code := (Go.Proofs.Tryz.f123.body).getD .skip
theorem hb123 : Go.Proofs.Tryz.f123.body = some b123 := by kernel_rfl
def SShNew : Spec := fun H args K => args = [] ∧ ∀ H', Fr [] H H' → Sheet0 H' H.length 1 0 1 → K H' (.ptr H.length 0)
theorem appShNew {H : List HObj} {K : List HObj → DV → Prop} (h : ∀ H', Fr [] H H' → Sheet0 H' H.length 1 0 1 → K H' (.ptr H.length 0)) : app SShNew H [] K := ⟨rfl, h⟩
theorem rcShNew {I : Jd pp} (hI : ∀ w e, I.Ok w e) : RC I 123 SShNew := by
  refine rc_of_code (isObj := isT) (Γ := envOf []) (rs := [0]) mixed hI (envOf_rc (by simp)) Go.Proofs.Tryz.func123 (by kernel_rfl) hb123 Go.Proofs.Tryz.results123 Go.Proofs.Tryz.ntmps123 (by decide) ?_
  rintro H args K ⟨rfl, hK⟩
  refine ⟨by simp, rfl, ?_⟩
  unfold b123 Go.Proofs.Tryz.f123
  simp only [Option.getD_some, argSlots, w_seq, w_region, mk_clean, tS_cons, g_none, hold_app, o_assign, take_const, constDV, mk_put, dropLk, tS_nil, hold_app2, bd191, isT_eq, Nat.reduceBEq, nz_f, bd191_1, bdk_eq, vcl_int, List.length_cons, List.length_nil, Nat.zero_add, Nat.reduceAdd, Nat.reduceLeDiff, List.all_cons, vsca_int, List.all_nil, Bool.and_self, putAt_eq, List.take_succ_cons, List.take_zero, List.cons_append, List.nil_append, List.drop_succ_cons, List.drop_zero, bd191_3, List.drop_nil, List.append_nil, bd_nil, o_box, Nat.reduceLT, take_tmp, takK, look_hit, List.map_cons, vro1_sl, vro1_int, List.map_nil, vcl_agg, vsca_sl, nv_if, beq_self_eq_true, bgen_eq, bget_nil, bset_nil, if_true, vroA_ptr, w_ret, ret_one, vfla_ptr, true_and]
  exact hK _ (Fr.app _ _ _) (by simp [Sheet0])
noncomputable def b234 : Code := (Go.Proofs.Tryz.f234.body).getD .skip
theorem hb234 : Go.Proofs.Tryz.f234.body = some b234 := by kernel_rfl
def SBtw : Spec := fun H args K => ∃ n : Int, args = [.int .i64 n] ∧ 0 ≤ n ∧ n ≤ 1000000 ∧ K H (.bool true)
theorem appBtw {H : List HObj} {K : List HObj → DV → Prop} {n : Int} (h1 : 0 ≤ n) (h2 : n ≤ 1000000) (h : K H (.bool true)) : app SBtw H [.int .i64 n] K := ⟨n, rfl, h1, h2, h⟩
theorem rcBtw {I : Jd pp} (hI : ∀ w e, I.Ok w e) : RC I 234 SBtw := by
  refine rc_of_code (isObj := noO) (Γ := envOf []) (rs := [2]) mixed hI (envOf_rc (by simp)) Go.Proofs.Tryz.func234 (by kernel_rfl) hb234 Go.Proofs.Tryz.results234 Go.Proofs.Tryz.ntmps234 (by decide) ?_
  rintro H args K ⟨n, rfl, h1, h2, hK⟩
  refine ⟨by simp, rfl, ?_⟩
  unfold b234 Go.Proofs.Tryz.f234
  simp only [Option.getD_some, argSlots, vro_int, w_seq, w_region, mk_clean, tS_cons, g_none, hold_app, o_assign, take_const, constDV, mk_put, dropLk, tS_nil, hold_app2, o_move, Nat.reduceLT, move_tmp, movK, Nat.reduceBEq, look_miss, look_hit, vroA_int, o_bin, nil_int, Bool.false_eq_true, rho_tmp, rho_const, b_geq, h1, decide_true, mk_put?_some, vroA_bool, g_some, gq_succ, gq_zero, gs1_eq, gs2_tt, mk_setT, b_leq, h2, o_pick, pk, if_true, take_tmp, takK, w_ret, ret_one, vfla_bool, true_and, if_false]
  exact hK
noncomputable def b182 : Code := (Go.Proofs.Tryz.f182.body).getD .skip
theorem hb182 : Go.Proofs.Tryz.f182.body = some b182 := by kernel_rfl
/-- An edit without tables. -/
def SForm0 : Spec := fun H args K => ∃ (o1 o2 : Bool) (log seq : Int), args = [.agg [.sl o1 1 [], .sl o2 5 [], .int .i64 log, .int .i64 seq]] ∧ 0 ≤ log ∧ log ≤ 1000000 ∧ 0 ≤ seq ∧ seq ≤ 1000000 ∧ K H (.bool true)
theorem rcForm0 {I : Jd pp} (hI : ∀ w e, I.Ok w e) : RC I 182 SForm0 := by
  refine rc_of_code (isObj := noO) (Γ := envOf [(234, SBtw)]) (rs := [2]) mixed hI (envOf_rc (by simpa using rcBtw hI)) Go.Proofs.Tryz.func182 (by kernel_rfl) hb182 Go.Proofs.Tryz.results182 Go.Proofs.Tryz.ntmps182 (by decide) ?_
  rintro H args K ⟨o1, o2, log, seq, rfl, h1, h2, h3, h4, hK⟩
  refine ⟨by simp, rfl, ?_⟩
  unfold b182 Go.Proofs.Tryz.f182
  simp only [Option.getD_some, argSlots, vro_agg, List.map_cons, vro1_sl, vro1_int, List.map_nil, w_seq, w_region, mk_clean, tS_cons, g_none, hold_app, o_box, Nat.reduceLT, take_tmp, takK, look_hit, vcl_agg, List.all_cons, vsca_sl, vsca_int, List.all_nil, Bool.and_self, nv_if, isO_eq, Bool.false_eq_true, dropLk, bgen_eq, bget_nil, bset_nil, if_false, o_assign, take_const, constDV, mk_put, tS_nil, hold_app2, o_fieldAddr, rho_tmp, Nat.reduceBEq, look_miss, fl167_1, Nat.zero_add, mk_put?_some, o_load, ld_b, bget_cons, if_true, dlb_some, List.drop_succ_cons, List.drop_zero, la131, vro_sl, lo_sl, addrPos, ia131, o_len, dl131, List.length_nil, nc0, Pos.atSlot, Bool.or_self, o_move, move_const, vroA_int, w_block, true_and]
  refine w_unroll 1 ?_
  simp only [lw_succ, w_seq, w_region, mk_clean, tS_cons, g_none, hold_app, o_bin, nil_tmp, Bool.false_eq_true, Nat.reduceLT, rho_tmp, look_hit, Nat.reduceBEq, look_miss, b_lss, Int.reduceLT, decide_false, mk_put?_some, dropLk, tS_nil, hold_app2, w_cond, cd_f, w_exit, o_fieldAddr, fl167_0, Nat.add_zero, o_load, ld_b, bget_cons, bget_nil, if_true, dlb_some, List.drop_zero, la99, vro_sl, lo_sl, addrPos, ia99, if_false, o_len, dl99, List.length_nil, nc0, Pos.atSlot, Bool.or_self, nil_int, rho_const, constDV, b_leq, Int.reduceLE, decide_true, o_move, move_tmp, movK, vroA_bool, g_some, gq_succ, gq_zero, gs1_eq, gs2_tt, mk_setT, fl167_1, Nat.zero_add, List.drop_succ_cons, la131, ia131, dl131, o_pick, pk, fl167_2, la3, vro_int, lo_int, o_fn, args_cons, args_nil, mk_H, env_cons, dcl_some, List.all_cons, vfla_int, List.all_nil, Bool.and_self, List.map_cons, List.map_nil, true_and]
  refine appBtw h1 h2 ?_
  simp only [hold_app2, mk_called, Pos.isHp, List.filter_cons, Bool.not_false, List.filter_nil, if_true, mk_put?_some, dropLk, Nat.reduceBEq, Pos.atSlot, Bool.or_self, Bool.false_eq_true, if_false, hold_app, tS_cons, g_none, o_pick, Nat.reduceLT, rho_tmp, look_miss, look_hit, rho_const, constDV, pk, vroA_bool, o_move, move_tmp, movK, g_some, gq_succ, gq_zero, gs1_eq, gs2_tt, mk_setT, o_fieldAddr, fl167_3, Nat.zero_add, o_load, ld_b, bget_cons, bget_nil, dlb_some, List.drop_succ_cons, List.drop_zero, la3, vro_int, lo_int, o_fn, args_cons, args_nil, mk_H, env_cons, dcl_some, List.all_cons, vfla_int, List.all_nil, Bool.and_self, List.map_cons, List.map_nil, true_and]
  refine appBtw h3 h4 ?_
  simp only [hold_app2, mk_called, Pos.isHp, List.filter_cons, Bool.not_false, List.filter_nil, if_true, mk_put?_some, dropLk, Nat.reduceBEq, Pos.atSlot, Bool.or_self, Bool.false_eq_true, if_false, hold_app, tS_cons, g_none, o_pick, Nat.reduceLT, rho_tmp, look_miss, look_hit, rho_const, constDV, pk, vroA_bool, o_assign, take_tmp, takK, mk_put, tS_nil, w_ret, ret_one, vfla_bool, true_and]
  exact hK
noncomputable def b121 : Code := (Go.Proofs.Tryz.f121.body).getD .skip
theorem hb121 : Go.Proofs.Tryz.f121.body = some b121 := by kernel_rfl
def editB (log seq : Nat) : Str := sealB (numB 0 ++ numB 0 ++ numB log ++ numB seq)
def SShB0 : Spec := fun H args K => ∃ (o1 o2 : Bool) (log seq : Nat), args = [.agg [.sl o1 1 [], .sl o2 5 [], .int .i64 log, .int .i64 seq]] ∧ log ≤ 1000000 ∧ seq ≤ 1000000 ∧ ∀ H', Fr [] H H' → K H' (.tup [.str (editB log seq), .int .i64 0])
theorem appShB0 {H : List HObj} {K : List HObj → DV → Prop} {o1 o2 : Bool} {log seq : Nat} (h1 : log ≤ 1000000) (h2 : seq ≤ 1000000) (h : ∀ H', Fr [] H H' → K H' (.tup [.str (editB log seq), .int .i64 0])) : app SShB0 H [.agg [.sl o1 1 [], .sl o2 5 [], .int .i64 log, .int .i64 seq]] K := ⟨o1, o2, log, seq, rfl, h1, h2, h⟩
set_option maxHeartbeats 2000000 in
theorem rcShB0 {I : Jd pp} (hI : ∀ w e, I.Ok w e) : RC I 121 SShB0 := by
  refine rc_of_code (isObj := noO) (Γ := envOf [(182, SForm0), (137, SNum), (139, SSeal)]) (rs := [2, 3]) mixed hI (envOf_rc (by simpa using ⟨rcForm0 hI, rcNum hI, rcSeal hI⟩)) Go.Proofs.Tryz.func121 (by kernel_rfl) hb121 Go.Proofs.Tryz.results121 Go.Proofs.Tryz.ntmps121 (by decide) ?_
  rintro H args K ⟨o1, o2, log, seq, rfl, h1, h2, hK⟩
  refine ⟨by simp, rfl, ?_⟩
  unfold b121 Go.Proofs.Tryz.f121
  have l0 := numB_len 0
  have l1 := numB_len log
  have l2 := numB_len seq
  simp only [List.append_eq, List.cons_append, List.nil_append, Option.getD_some, argSlots, vro_agg, List.map_cons, vro1_sl, vro1_int, List.map_nil, w_seq, w_region, mk_clean, tS_cons, g_none, hold_app, o_box, Nat.reduceLT, take_tmp, takK, look_hit, vcl_agg, List.all_cons, vsca_sl, vsca_int, List.all_nil, Bool.and_self, nv_if, isO_eq, Bool.false_eq_true, dropLk, bgen_eq, bget_nil, bset_nil, if_false, o_assign, take_const, constDV, mk_put, tS_nil, hold_app2, o_load, rho_tmp, Nat.reduceBEq, look_miss, ld_b, bget_cons, if_true, dlb_some, List.drop_zero, la167, List.length_cons, List.length_nil, Nat.zero_add, Nat.reduceAdd, Nat.reduceLeDiff, List.take_succ_cons, List.take_zero, lo_agg, o_fn, args_cons, args_nil, mk_H, env_cons, Nat.reduceEqDiff, dcl_some, vfla_agg, true_and]
  refine ⟨_, _, (log : Int), (seq : Int), rfl, by omega, by omega, by omega, by omega, ?_⟩
  simp only [hold_app2, mk_called, Pos.isHp, List.filter_nil, mk_put?_some, dropLk, hold_app, tS_cons, g_none, o_un, Nat.reduceLT, rho_tmp, look_hit, u_not, Bool.not_true, tS_nil, w_cond, cd_f, w_skip, w_seq, w_region, mk_clean, o_fieldAddr, Nat.reduceBEq, look_miss, fl167_0, Nat.add_zero, o_load, ld_b, bget_cons, bget_nil, if_true, dlb_some, List.drop_zero, la99, vro_sl, lo_sl, addrPos, ia99, Bool.false_eq_true, if_false, o_len, dl99, List.length_nil, nc0, Pos.atSlot, Bool.or_self, o_fn, args_cons, args_nil, mk_H, env_cons, Nat.reduceEqDiff, dcl_some, List.all_cons, vfla_int, List.all_nil, Bool.and_self, List.map_cons, vro_int, List.map_nil, true_and]
  refine appNum (n := 0) (by omega) ?_
  simp only [hold_app2, mk_called, Pos.isHp, List.filter_cons, Bool.not_false, List.filter_nil, if_true, mk_put?_some, dropLk, Nat.reduceBEq, Pos.atSlot, Bool.or_self, Bool.false_eq_true, if_false, hold_app, tS_cons, g_none, o_assign, Nat.reduceLT, take_tmp, takK, look_hit, vroA_str, mk_put, tS_nil, w_seq, w_region, mk_clean, o_fieldAddr, rho_tmp, look_miss, fl167_0, Nat.add_zero, o_load, ld_b, bget_cons, bget_nil, dlb_some, List.drop_zero, la99, vro_sl, lo_sl, addrPos, ia99, o_len, dl99, List.length_nil, nc0, o_move, move_const, constDV, vroA_int, w_block, true_and]
  refine w_unroll 1 ?_
  simp only [lw_succ, w_seq, w_region, mk_clean, tS_cons, g_none, hold_app, o_bin, nil_tmp, Bool.false_eq_true, Nat.reduceLT, rho_tmp, look_hit, Nat.reduceBEq, look_miss, b_lss, Int.reduceLT, decide_false, mk_put?_some, dropLk, tS_nil, hold_app2, w_cond, cd_f, w_exit, o_move, move_tmp, movK, vroA_str, o_fieldAddr, fl167_1, Nat.zero_add, o_load, ld_b, bget_cons, bget_nil, if_true, dlb_some, List.drop_succ_cons, List.drop_zero, la131, vro_sl, lo_sl, addrPos, ia131, if_false, o_len, dl131, List.length_nil, nc0, Pos.atSlot, Bool.or_self, o_fn, args_cons, args_nil, mk_H, env_cons, Nat.reduceEqDiff, dcl_some, List.all_cons, vfla_int, List.all_nil, Bool.and_self, List.map_cons, vro_int, List.map_nil, true_and]
  refine appNum (n := 0) (by omega) ?_
  simp only [hold_app2, mk_called, Pos.isHp, List.filter_cons, Bool.not_false, List.filter_nil, if_true, mk_put?_some, dropLk, Nat.reduceBEq, Pos.atSlot, Bool.or_self, Bool.false_eq_true, if_false, hold_app, tS_cons, g_none, o_bin, nil_tmp, Nat.reduceLT, rho_tmp, look_miss, look_hit, s_add, o_assign, take_tmp, takK, vroA_str, mk_put, tS_nil, w_seq, w_region, mk_clean, o_fieldAddr, fl167_1, Nat.zero_add, o_load, ld_b, bget_cons, bget_nil, dlb_some, List.drop_succ_cons, List.drop_zero, la131, vro_sl, lo_sl, addrPos, ia131, o_len, dl131, List.length_nil, nc0, o_move, move_const, constDV, vroA_int, w_block, true_and]
  refine ⟨by omega, ?_⟩
  refine w_unroll 1 ?_
  simp only [lw_succ, w_seq, w_region, mk_clean, tS_cons, g_none, hold_app, o_bin, nil_tmp, Bool.false_eq_true, Nat.reduceLT, rho_tmp, look_hit, Nat.reduceBEq, look_miss, b_lss, Int.reduceLT, decide_false, mk_put?_some, dropLk, tS_nil, hold_app2, w_cond, cd_f, w_exit, if_true, if_false]
  refine w_draw [3, 7, 9, 10, 11] (.quiet 0 (.quiet 1 (.quiet 2 (.quiet 5 (.quiet 6 (.acts [(3, [6, 5, 0], .quiet 4 (.acts [(7, [4, 0], .quiet 8 (.acts [(9, [], .acts [(10, [], .acts [(11, [], .done)])])]))]))])))))) (by decide) (by kernel_rfl) ?_
  simp only [mk_clean, rp_quiet, rpQ_zero, g_none, hold_app, q_move, Nat.reduceLT, rho_tmp, Nat.reduceBEq, look_miss, look_hit, vroA_str, ex_eq, mk_put, dropLk, rpQ_succ, q_fieldAddr, fl167_2, Nat.zero_add, q_load, ld_b, bget_cons, bget_nil, if_true, dlb_some, List.drop_succ_cons, List.drop_zero, la3, vro_int, true_and, fl167_3, rp_acts, ra_cons, rpA_succ, rpA_zero, o_fn, args_cons, args_nil, mk_H, env_cons, Nat.reduceEqDiff, if_false, dcl_some, List.all_cons, vfla_int, List.all_nil, Bool.and_self, List.map_cons, List.map_nil, ra_nil, and_true]
  refine appNum (n := log) (by omega) ?_
  simp only [hold_app2, mk_called, Pos.isHp, List.filter_nil, mk_put?_some, dropLk, hold_app, rcA_cons, rcW_succ, rcW_zero, g_none, Nat.reduceLT, mk_t, Nat.reduceBEq, look_miss, look_hit, q_load, rho_tmp, ld_b, bget_cons, bget_nil, if_true, dlb_some, List.drop_succ_cons, List.drop_zero, la3, vro_int, and_true, q_fieldAddr, fl167_3, Nat.zero_add, q_move, vroA_str, rcA_nil, slL_cons, slW_succ, slW_zero, slL_nil, mk_unlink, dropLks, rp_quiet, rpQ_succ, rpQ_zero, q_bin, s_add, List.append_assoc, ex_and, ex_eq, mk_put, rp_acts, ra_cons, rpA_succ, rpA_zero, o_fn, args_cons, args_nil, mk_H, env_cons, Nat.reduceEqDiff, if_false, dcl_some, List.all_cons, vfla_int, List.all_nil, Bool.and_self, List.map_cons, List.map_nil, true_and, ra_nil]
  refine ⟨by simp only [List.length_append]; omega, ?_⟩
  refine appNum (n := seq) (by omega) ?_
  simp only [hold_app2, mk_called, Pos.isHp, List.filter_nil, mk_put?_some, dropLk, hold_app, rcA_cons, rcW_succ, rcW_zero, g_none, Nat.reduceLT, mk_t, Nat.reduceBEq, look_miss, look_hit, q_bin, rho_tmp, s_add, List.append_assoc, and_true, q_move, vroA_str, rcA_nil, slL_cons, slW_succ, slW_zero, slL_nil, mk_unlink, dropLks, rp_quiet, rpQ_succ, rpQ_zero, ex_and, ex_eq, mk_put, rp_acts, ra_cons, rpA_succ, rpA_zero, o_fn, args_cons, args_nil, mk_H, env_cons, Nat.reduceEqDiff, if_true, if_false, dcl_some, List.all_cons, vfla_str, List.all_nil, Bool.and_self, List.map_cons, vro_str, List.map_nil, true_and, ra_nil]
  refine ⟨by simp only [List.length_append]; omega, by simp only [List.length_append]; omega, ?_⟩
  refine appSeal (by simp only [List.length_append]; omega) fun H' f => ?_
  simp only [hold_app2, mk_called, Pos.isHp, List.filter_nil, mk_put?_some, dropLk, hold_app, rcA_nil, slL_nil, mk_unlink, dropLks, rp_acts, ra_cons, rpA_succ, rpA_zero, g_none, o_assign, Nat.reduceLT, take_tmp, takK, look_hit, vroA_str, mk_put, take_const, constDV, rp_done, w_ret, ret_two, Nat.reduceBEq, look_miss, vfla_str, vfla_int, and_true, true_and, ra_nil]
  have := hK H' f
  simpa only [editB, List.append_assoc] using this
noncomputable def b193 : Code := (Go.Proofs.Tryz.f193.body).getD .skip
theorem hb193 : Go.Proofs.Tryz.f193.body = some b193 := by kernel_rfl
def SClT0 : Spec := fun H args K => ∃ own, args = [.sl own 5 []] ∧ K H (.sl true 5 [])
theorem rcClT0 {I : Jd pp} (hI : ∀ w e, I.Ok w e) : RC I 193 SClT0 := by
  refine rc_of_code (isObj := noO) (Γ := envOf []) (rs := [2]) mixed hI (envOf_rc (by simp)) Go.Proofs.Tryz.func193 (by kernel_rfl) hb193 Go.Proofs.Tryz.results193 Go.Proofs.Tryz.ntmps193 (by decide) ?_
  rintro H args K ⟨own, rfl, hK⟩
  refine ⟨by simp, rfl, ?_⟩
  unfold b193 Go.Proofs.Tryz.f193
  cases own <;> simp only [Option.getD_some, argSlots, vro_sl, w_seq, w_region, mk_clean, tS_cons, g_none, hold_app, o_assign, take_const, constDV, Proofs.Tryz.underlying131, cn172, mk_put, dropLk, tS_nil, hold_app2, o_move, Nat.reduceLT, move_tmp, movK, Nat.reduceBEq, look_miss, look_hit, lkGet, o_bin, nil_sl, rho_tmp, n_eql Go.Proofs.Tryz.underlying131, mk_put?_some, w_cond, cd, Bool.false_eq_true, w_ret, ret_one, vfla_sl, true_and, false_implies, w_skip, bs131_0, o_append, isO_eq, apo131_131, take_tmp, takK, apdO_new, ne_eq, newRow_mk, vroA_hsl, vfla_hsl, srcC_sl Go.Proofs.Tryz.underlying131, List.length_nil, Nat.zero_mul, Nat.reduceLeDiff, true_implies, not_true_eq_false, List.flatMap_nil, List.map_nil, Nat.sub_zero, List.nil_append, and_true, ap131_131, apd_own, Nat.add_zero, List.append_nil, if_false, Bool.true_eq_false, rho_const, if_true]
  all_goals exact ⟨hK, hK⟩
noncomputable def b127 : Code := (Go.Proofs.Tryz.f127.body).getD .skip
theorem hb127 : Go.Proofs.Tryz.f127.body = some b127 := by kernel_rfl
def STb0 : Spec := fun H args K => ∃ (sp : Nat) (log seq next : Int), args = [.ptr sp 0] ∧ Sheet0 H sp log seq next ∧ K H (.sl true 5 [])
theorem rcTb0 {I : Jd pp} (hI : ∀ w e, I.Ok w e) : RC I 127 STb0 := by
  refine rc_of_code (isObj := noO) (Γ := envOf [(193, SClT0)]) (rs := [2]) mixed hI (envOf_rc (by simpa using rcClT0 hI)) Go.Proofs.Tryz.func127 (by kernel_rfl) hb127 Go.Proofs.Tryz.results127 Go.Proofs.Tryz.ntmps127 (by decide) ?_
  rintro H args K ⟨sp, log, seq, next, rfl, h1, hK⟩
  refine ⟨by simp, rfl, ?_⟩
  unfold b127 Go.Proofs.Tryz.f127
  simp only [Option.getD_some, argSlots, vro_ptr, w_seq, w_region, mk_clean, tS_cons, g_none, hold_app, o_assign, take_const, constDV, Proofs.Tryz.underlying131, cn172, mk_put, dropLk, tS_nil, hold_app2, o_move, Nat.reduceLT, move_tmp, movK, Nat.reduceBEq, look_miss, look_hit, vroA_ptr, o_nilCheck, dnil, rho_tmp, mk_put?_some, o_fieldAddr, fp191_0, Nat.add_zero, o_load, ld_h, show H[sp]? = _ from h1, dlh_some, List.drop_zero, la131, vro_sl, lo_sl, addrPos, ia131, Bool.false_eq_true, if_false, o_fn, args_cons, args_nil, mk_H, env_cons, if_true, dcl_some, List.all_cons, vfla_sl, List.all_nil, Bool.and_self, List.map_cons, List.map_nil, true_and]
  refine ⟨_, rfl, ?_⟩
  simp only [hold_app2, mk_called, Pos.isHp, List.filter_cons, Bool.not_true, Bool.false_eq_true, List.filter_nil, if_false, mk_put?_some, dropLk, hold_app, tS_cons, g_none, o_assign, Nat.reduceLT, take_tmp, takK, look_hit, mk_put, tS_nil, w_ret, ret_one, vfla_sl, true_and]
  exact hK
noncomputable def b148 : Code := (Go.Proofs.Tryz.f148.body).getD .skip
theorem hb148 : Go.Proofs.Tryz.f148.body = some b148 := by kernel_rfl
def SCov0 : Spec := fun H args K => ∃ (sp : Nat) (log seq next : Int) (k : Str), args = [.ptr sp 0, .str k] ∧ Sheet0 H sp log seq next ∧ K H (.sl true 5 [])
theorem appCov0 {H : List HObj} {K : List HObj → DV → Prop} {sp : Nat} {log seq next : Int} {k : Str} (h1 : Sheet0 H sp log seq next) (h : K H (.sl true 5 [])) : app SCov0 H [.ptr sp 0, .str k] K := ⟨sp, log, seq, next, k, rfl, h1, h⟩
theorem rcCov0 {I : Jd pp} (hI : ∀ w e, I.Ok w e) : RC I 148 SCov0 := by
  refine rc_of_code (isObj := noO) (Γ := envOf [(127, STb0)]) (rs := [4]) mixed hI (envOf_rc (by simpa using rcTb0 hI)) Go.Proofs.Tryz.func148 (by kernel_rfl) hb148 Go.Proofs.Tryz.results148 Go.Proofs.Tryz.ntmps148 (by decide) ?_
  rintro H args K ⟨sp, log, seq, next, k, rfl, h1, hK⟩
  refine ⟨by simp, rfl, ?_⟩
  unfold b148 Go.Proofs.Tryz.f148
  simp only [Option.getD_some, argSlots, vro_ptr, Nat.zero_add, vro_str, w_seq, w_region, mk_clean, tS_cons, g_none, hold_app, o_assign, take_const, constDV, Proofs.Tryz.underlying131, cn172, mk_put, dropLk, tS_nil, hold_app2, o_move, Nat.reduceLT, move_tmp, movK, Nat.reduceBEq, look_miss, look_hit, vroA_ptr, o_fn, args_cons, rho_tmp, args_nil, mk_H, env_cons, if_true, dcl_some, List.all_cons, vfla_ptr, List.all_nil, Bool.and_self, List.map_cons, List.map_nil, true_and]
  refine ⟨sp, log, seq, next, rfl, h1, ?_⟩
  simp only [hold_app2, mk_called, Pos.isHp, List.filter_nil, mk_put?_some, dropLk, hold_app, tS_cons, g_none, o_len, Nat.reduceLT, rho_tmp, look_hit, dl131, List.length_nil, nc0, o_move, move_const, constDV, vroA_int, tS_nil, w_block]
  refine w_unroll 1 ?_
  simp only [lw_succ, w_seq, w_region, mk_clean, tS_cons, g_none, hold_app, o_bin, nil_tmp, Bool.false_eq_true, Nat.reduceLT, rho_tmp, look_hit, Nat.reduceBEq, look_miss, b_lss, Int.reduceLT, decide_false, mk_put?_some, dropLk, tS_nil, hold_app2, w_cond, cd_f, w_exit, o_move, move_tmp, movK, Nat.reduceEqDiff, if_false, o_assign, take_tmp, takK, lkGet, if_true, own_slot, part_sl, ownSz_t, un_slot, vroA_sl, mk_put, Pos.atSlot, Bool.or_self, w_ret, ret_one, vfla_sl, true_and]
  exact hK
noncomputable def b100 : Code := (Go.Proofs.Tryz.f100.body).getD .skip
theorem hb100 : Go.Proofs.Tryz.f100.body = some b100 := by kernel_rfl
def SBet0 : Spec := fun H args K => ∃ (sp : Nat) (log seq next : Int) (a b : Str), args = [.ptr sp 0, .str a, .str b] ∧ Sheet0 H sp log seq next ∧ K H (.sl true 5 [])
theorem appBet0 {H : List HObj} {K : List HObj → DV → Prop} {sp : Nat} {log seq next : Int} {a b : Str} (h1 : Sheet0 H sp log seq next) (h : K H (.sl true 5 [])) : app SBet0 H [.ptr sp 0, .str a, .str b] K := ⟨sp, log, seq, next, a, b, rfl, h1, h⟩
theorem rcBet0 {I : Jd pp} (hI : ∀ w e, I.Ok w e) : RC I 100 SBet0 := by
  refine rc_of_code (isObj := noO) (Γ := envOf [(127, STb0)]) (rs := [6]) mixed hI (envOf_rc (by simpa using rcTb0 hI)) Go.Proofs.Tryz.func100 (by kernel_rfl) hb100 Go.Proofs.Tryz.results100 Go.Proofs.Tryz.ntmps100 (by decide) ?_
  rintro H args K ⟨sp, log, seq, next, a, b, rfl, h1, hK⟩
  refine ⟨by simp, rfl, ?_⟩
  unfold b100 Go.Proofs.Tryz.f100
  simp only [Option.getD_some, argSlots, vro_ptr, Nat.zero_add, vro_str, Nat.reduceAdd, w_seq, w_region, mk_clean, tS_cons, g_none, hold_app, o_assign, take_const, constDV, Proofs.Tryz.underlying131, cn172, mk_put, dropLk, tS_nil, hold_app2, w_scope, w_label, o_move, Nat.reduceLT, move_tmp, movK, Nat.reduceBEq, look_miss, look_hit, vroA_ptr, o_fn, args_cons, rho_tmp, args_nil, mk_H, env_cons, if_true, dcl_some, List.all_cons, vfla_ptr, List.all_nil, Bool.and_self, List.map_cons, List.map_nil, true_and]
  refine ⟨sp, log, seq, next, rfl, h1, ?_⟩
  simp only [hold_app2, mk_called, Pos.isHp, List.filter_nil, mk_put?_some, dropLk, hold_app, tS_cons, g_none, o_len, Nat.reduceLT, rho_tmp, look_hit, dl131, List.length_nil, nc0, o_move, move_const, constDV, vroA_int, tS_nil, w_block]
  refine w_unroll 1 ?_
  simp only [lw_succ, w_seq, w_region, mk_clean, tS_cons, g_none, hold_app, o_bin, nil_tmp, Bool.false_eq_true, Nat.reduceLT, rho_tmp, look_hit, Nat.reduceBEq, look_miss, b_lss, Int.reduceLT, decide_false, mk_put?_some, dropLk, tS_nil, hold_app2, w_cond, cd_f, w_exit, o_move, move_tmp, movK, Nat.reduceEqDiff, if_false, o_assign, take_tmp, takK, lkGet, if_true, own_slot, part_sl, ownSz_t, un_slot, vroA_sl, mk_put, Pos.atSlot, Bool.or_self, w_ret, ret_one, vfla_sl, true_and]
  exact hK
end Go.Ab.En
