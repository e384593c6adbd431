/- A part of the proofs that a law function returns true at every input; it has no condition of its own. -/
import Derived.Test.YtefaplodmbdhlaaOrF
set_option linter.unusedSimpArgs false
set_option linter.unusedVariables false
/- OrS: The order laws: known. -/
namespace Go.Ab.Or
open Go Go.Conc Go.RowKit Go.Ab
set_option maxRecDepth 10000
theorem DC.ok.ro {a : DC} (h : a.ok) : a.cells.map DV.ro1 = a.cells := by simp only [DC.cells, List.map_cons, List.map_nil, vro1_int, h.1, h.2.2.1]
theorem rows2 {id : Nat} {H : List HObj} {a b : DC} {rest : List DV} (ha : a.ok) (hb : b.ok) (h : H[id]? = some (.cells (a.cells ++ (b.cells ++ rest)))) : RowV H 5 (.hsl id 5 0 2) [a.cells, b.cells] := by
  refine .inr ⟨id, 0, _, rfl, h, fun i r hr => ?_⟩
  match i, hr with
  | 0, hr => cases hr; exact ⟨a.cells, _, rfl, ha.ro⟩
  | 1, hr => cases hr; exact ⟨b.cells, _, rfl, hb.ro⟩
theorem rows3 {id : Nat} {H : List HObj} {a b c : DC} {rest : List DV} (ha : a.ok) (hb : b.ok) (hc : c.ok) (h : H[id]? = some (.cells (a.cells ++ (b.cells ++ (c.cells ++ rest))))) : RowV H 5 (.hsl id 5 0 3) [a.cells, b.cells, c.cells] := by
  refine .inr ⟨id, 0, _, rfl, h, fun i r hr => ?_⟩
  match i, hr with
  | 0, hr => cases hr; exact ⟨a.cells, _, rfl, ha.ro⟩
  | 1, hr => cases hr; exact ⟨b.cells, _, rfl, hb.ro⟩
  | 2, hr => cases hr; exact ⟨c.cells, _, rfl, hc.ro⟩
def wK : WR := ⟨[107], false, [118]⟩
def wD : DC := ⟨0, 1, 0, .sl false 5 (List.map .agg (List.map RD.cells [])), .sl false 3 (List.map wrD [wK])⟩
def rR : RD := ⟨0, false, [107], [], [([107], [118])]⟩
def rD : DC := ⟨1, 0, 1, .sl false 5 (List.map .agg (List.map RD.cells [rR])), .sl false 3 (List.map wrD [])⟩
def uR : RD := ⟨0, false, [107], [], []⟩
def uD : DC := ⟨1, 0, 0, .sl false 5 (List.map .agg (List.map RD.cells [uR])), .sl false 3 (List.map wrD [])⟩
theorem wDW (H : List HObj) : DW H wD [] [wK] := ⟨.inl rfl, rfl, by simp, by simp, by simp⟩
theorem rDW (H : List HObj) : DW H rD [rR] [] := ⟨.inl rfl, rfl, by simp, by simp, by simp [rR]⟩
theorem uDW (H : List HObj) : DW H uD [uR] [] := ⟨.inl rfl, rfl, by simp, by simp, by simp [uR]⟩
def dK : List MD := [(uD, [uR], []), (wD, [], [wK]), (rD, [rR], [])]
theorem dKV {H : List HObj} {v : DV} (h : RowV H 5 v [uD.cells, wD.cells, rD.cells]) : DealsV H v dK := by
  refine ⟨h, ?_, by simp [dK], by simp [dK, wsum], ?_⟩
  · simp only [dK, List.forall_mem_cons]
    exact ⟨uDW H, wDW H, rDW H, by simp⟩
  · simp only [dK, List.forall_mem_cons]
    exact ⟨by simp, by simp [wK, maxLen], by simp, by simp⟩
def dK2 : List MD := [(wD, [], [wK]), (uD, [uR], [])]
theorem dK2V {H : List HObj} : DealsV H (.sl false 5 [.agg wD.cells, .agg uD.cells]) dK2 := by
  refine ⟨.inl rfl, ?_, by simp [dK2], by simp [dK2, wsum], ?_⟩
  · simp only [dK2, List.forall_mem_cons]
    exact ⟨wDW H, uDW H, by simp⟩
  · simp only [dK2, List.forall_mem_cons]
    exact ⟨by simp [wK, maxLen], by simp, by simp⟩
theorem explK : explF noF dK = true := by decide
theorem explK2 : explF noF dK2 = false := by decide
theorem seeK0 : (pairsF (seeF noF dK 0) [] []).length = 1 := by
  have : seeF noF dK 0 = some [([107], [118])] := by decide
  rw [this]
  simp [pairsF, namesF, inR, Op.bytesLess]
theorem seeK1 : (pairsF (seeF noF dK 1) [] []).length = 0 := by
  have : seeF noF dK 1 = some [] := by decide
  rw [this]
  simp [pairsF, namesF]
noncomputable def b6 : Code := (Go.Proofs.Try.f6.body).getD .skip
theorem hb6 : Go.Proofs.Try.f6.body = some b6 := by kernel_rfl
def SKn : Spec := fun H args K => args = [] ∧ ∀ H', Fr H H' [] → K H' (.bool true)
set_option maxHeartbeats 8000000 in
theorem rcKn : RC (loneJ pp) 6 SKn := by
  have hI : ∀ w e, (loneJ pp).Ok w e := fun _ _ => trivial
  refine rc_of_code (isObj := isO) (Γ := envOf [(8, SChain), (9, SSort), (10, SSDs), (7, SExp), (11, SSee)]) (rs := [0]) mixed hI (envOf_rc (by simpa using ⟨rcChain hI, rcSort hI, rcSDs hI, rcExp, rcSee⟩)) Go.Proofs.Try.func6 (by kernel_rfl) hb6 Go.Proofs.Try.results6 Go.Proofs.Try.ntmps6 (by decide) ?_
  rintro H args K ⟨rfl, hK⟩
  refine ⟨by simp, rfl, ?_⟩
  unfold b6 Go.Proofs.Try.f6
  simp only [Option.getD_some, argSlots, w_seq, w_region, mk_clean, tS_cons, g_none, hold_app, o_assign, take_const, constDV, mk_put, dropLk, tS_nil, hold_app2, bd26, bd26_0, bdk_eq, vcl_str, List.length_cons, List.length_nil, Nat.zero_add, Nat.reduceAdd, Nat.reduceLeDiff, List.all_cons, vsca_str, List.all_nil, Bool.and_self, putAt_eq, List.take_zero, List.nil_append, List.drop_succ_cons, List.drop_zero, List.cons_append, bd26_2, List.take_succ_cons, List.drop_nil, List.append_nil, bd_nil, bs27_1, isO_eq, Nat.reduceBEq, Bool.or_self, Nat.reduceLT, rho_tmp, look_hit, vro_agg, List.map_cons, vro1_str, vro1_bool, List.map_nil, bsl_f, vcl_agg, beq_self_eq_true, vsca_bool, bd30, bd30_1, vcl_int, vsca_int, bd30_4, take_tmp, takK, look_miss, vcl_sl, vsca_sl, al30, nv_if, Bool.false_eq_true, bgen_eq, bget_nil, bset_nil, if_false, o_store, vro1_int, vro1_sl, st_b, bget_cons, if_true, stb_some, Proofs.Try.underlying30, Option.isSome_some, cn30, mk_setB, bset_cons, Pos.inBox, List.filter_nil, bd35, bd35_0, bd35_1, bs31_1, bd33, bd33_2, bd33_4, bs28_1, bd30_0, bd30_2, bd30_3, Nat.reduceEqDiff, true_and]
  refine w_draw [0, 4, 5, 6] (.quiet 1 (.quiet 2 (.quiet 3 (.acts [(0, [3, 2, 1], .acts [(4, [], .acts [(5, [], .acts [(6, [], .done)])])]), (4, [], .acts [(0, [3, 2, 1], .acts [(5, [], .acts [(6, [], .done)])])])])))) (by decide) (by kernel_rfl) ?_
  simp only [mk_clean, rp_quiet, rpQ_succ, rpQ_zero, g_none, hold_app, q_load, Nat.reduceLT, rho_tmp, Nat.reduceBEq, look_miss, look_hit, ld_b, bget_cons, Nat.reduceEqDiff, bget_nil, if_false, if_true, dlb_some, List.drop_zero, la30, List.length_cons, List.length_nil, Nat.zero_add, Nat.reduceAdd, Nat.reduceLeDiff, List.take_succ_cons, List.take_zero, List.map_cons, vro1_int, vro1_sl, List.map_nil, true_and, ex_eq, mk_put, dropLk, rp_acts, ra_cons, rpA_zero, o_fn, args_cons, rho_const, constDV, args_nil, mk_H, env_cons, dcl_some, List.all_cons, vfla_int, List.all_nil, Bool.and_self, vro_int, rpA_succ, bs24_3, isO_eq, Bool.or_self, vro_agg, bsl_f, vcl_agg, beq_self_eq_true, vsca_int, vsca_sl, rcA_nil, slL_nil, mk_unlink, dropLks, ra_nil, and_true]
  constructor
  all_goals
    refine ⟨rfl, ?_⟩
    simp only [hold_app2, mk_called, Pos.isHp, List.filter_nil, mk_put?_some, dropLk, hold_app, rcA_cons, rcW_succ, rcW_zero, g_none, Nat.reduceLT, mk_t, Nat.reduceBEq, look_miss, look_hit, q_load, rho_tmp, ld_b, bget_cons, Nat.reduceEqDiff, bget_nil, if_true, if_false, dlb_some, List.drop_zero, la30, List.length_cons, List.length_nil, Nat.zero_add, Nat.reduceAdd, Nat.reduceLeDiff, List.take_succ_cons, List.take_zero, List.map_cons, vro1_int, vro1_sl, List.map_nil, and_true, rcA_nil, slL_cons, slW_succ, slW_zero, slL_nil, mk_unlink, dropLks, rp_acts, ra_cons, rpA_succ, rpA_zero, bs24_3, isO_eq, Bool.or_self, vro_agg, bsl_f, List.all_cons, vcl_agg, beq_self_eq_true, vsca_int, vsca_sl, List.all_nil, Bool.and_self, o_fn, args_cons, args_nil, mk_H, env_cons, dcl_some, vfla_agg, vfla_sl, vro_sl, true_and, ra_nil]
    refine .inr ⟨_, _, _, wD, rD, uD, rfl, (wDW []).ok, (rDW []).ok, (uDW []).ok, ⟨ap_get0, ap_get⟩, by decide, by decide, by decide, fun H' id rest hF hid => ?_⟩
    have hv := rows3 (uDW []).ok (wDW []).ok (rDW []).ok hid
    have hF' : Fr H H' [] := (Fr.app H _).trans hF
    simp only [hold_app2, mk_called, Pos.isHp, List.filter_nil, mk_put?_some, dropLk, hold_app, rcA_nil, slL_nil, mk_unlink, dropLks, rp_acts, ra_cons, rpA_succ, rpA_zero, g_none, o_assign, Nat.reduceLT, take_tmp, takK, look_hit, vroA_hsl, mk_put, rp_done, w_seq, w_region, mk_clean, tS_cons, o_move, move_tmp, movK, o_len, rho_tmp, dlh24, nc3, o_bin, nil_int, Bool.false_eq_true, rho_const, constDV, b_eql, decide_true, vroA_bool, g_some, gq_succ, gq_zero, gs1_eq, gs2_tt, mk_setT, Nat.reduceBEq, look_miss, o_load, ld_b, bget_cons, Nat.reduceEqDiff, bget_nil, if_true, if_false, dlb_some, List.drop_zero, la30, List.length_cons, List.length_nil, Nat.zero_add, Nat.reduceAdd, Nat.reduceLeDiff, List.take_succ_cons, List.take_zero, List.map_cons, vro1_int, vro1_sl, List.map_nil, lo_agg, bs24_3, isO_eq, Bool.or_self, vro_agg, bsl_f, List.all_cons, vcl_agg, beq_self_eq_true, vsca_int, vsca_sl, List.all_nil, Bool.and_self, o_fn, args_cons, args_nil, mk_H, env_cons, dcl_some, vfla_hsl, vfla_sl, vro_hsl, vro_sl, true_and, ra_nil, and_true]
    refine ⟨_, _, [uD, wD, rD], rfl, hv, .inl rfl, by simp, ?_, ?_⟩
    · simp only [List.forall_mem_cons]
      exact ⟨⟨_, _, uDW H'⟩, ⟨_, _, wDW H'⟩, ⟨_, _, rDW H'⟩, by simp⟩
    simp only [hold_app2, mk_called, Pos.isHp, List.filter_nil, mk_put?_some, dropLk, hold_app, tS_cons, g_none, o_pick, Nat.reduceLT, rho_tmp, Nat.reduceBEq, look_miss, look_hit, rho_const, constDV, pk, vroA_bool, if_true, o_move, move_tmp, movK, g_some, gq_succ, gq_zero, gs1_eq, gs2_tt, mk_setT, vroA_hsl, o_fn, args_cons, args_nil, mk_H, env_cons, Nat.reduceEqDiff, if_false, dcl_some, List.all_cons, vfla_hsl, List.all_nil, Bool.and_self, List.map_cons, vro_hsl, List.map_nil, true_and]
    refine ⟨_, dK, rfl, dKV hv, fun H2 hF2 => ?_⟩
    simp only [explK, hold_app2, mk_called, Pos.isHp, List.filter_nil, mk_put?_some, dropLk, hold_app, tS_cons, g_none, o_pick, Nat.reduceLT, rho_tmp, Nat.reduceBEq, look_miss, look_hit, rho_const, constDV, pk, vroA_bool, if_true, o_move, move_tmp, movK, g_some, gq_succ, gq_zero, gs1_eq, gs2_tt, mk_setT, o_load, ld_b, bget_cons, Nat.reduceEqDiff, bget_nil, if_false, dlb_some, List.drop_zero, la30, List.length_cons, List.length_nil, Nat.zero_add, Nat.reduceAdd, Nat.reduceLeDiff, List.take_succ_cons, List.take_zero, List.map_cons, vro1_int, vro1_sl, List.map_nil, lo_agg, bs24_2, isO_eq, Bool.or_self, vro_agg, bsl_f, List.all_cons, vcl_agg, beq_self_eq_true, vsca_int, vsca_sl, List.all_nil, Bool.and_self, o_fn, args_cons, args_nil, mk_H, env_cons, dcl_some, vfla_sl, vro_sl, true_and]
    refine ⟨_, dK2, rfl, dK2V, fun H3 hF3 => ?_⟩
    simp only [explK2, hold_app2, mk_called, Pos.isHp, List.filter_nil, mk_put?_some, dropLk, hold_app, tS_cons, g_some, gq_succ, gq_zero, Nat.reduceLT, gs1_eq, Nat.reduceBEq, look_miss, look_hit, gs2_tt, mk_setT, o_un, rho_tmp, u_not, Bool.not_false, g_none, o_pick, rho_const, constDV, pk, vroA_bool, if_true, o_move, move_tmp, movK, vroA_hsl, o_fn, args_cons, args_nil, mk_H, env_cons, Nat.reduceEqDiff, if_false, dcl_some, List.all_cons, vfla_hsl, vfla_int, List.all_nil, Bool.and_self, List.map_cons, vro_hsl, vro_int, List.map_nil, true_and]
    have hv3 := (hv.fr hF2).fr hF3
    refine ⟨_, _, dK, rfl, dKV hv3, fun H4 hF4 => ?_⟩
    simp only [hold_app2, mk_called, Pos.isHp, List.filter_nil, mk_put?_some, dropLk, hold_app, tS_cons, g_some, gq_succ, gq_zero, Nat.reduceLT, gs1_eq, Nat.reduceBEq, look_miss, look_hit, gs2_tt, mk_setT, o_len, rho_tmp, dl31, List.length_map, seeK0, nc1, o_bin, nil_int, Bool.false_eq_true, rho_const, constDV, b_eql, decide_true, g_none, o_pick, pk, vroA_bool, if_true, o_move, move_tmp, movK, vroA_hsl, o_fn, args_cons, args_nil, mk_H, env_cons, Nat.reduceEqDiff, if_false, dcl_some, List.all_cons, vfla_hsl, vfla_int, List.all_nil, Bool.and_self, List.map_cons, vro_hsl, vro_int, List.map_nil, true_and]
    refine ⟨_, _, dK, rfl, dKV (hv3.fr hF4), fun H5 hF5 => ?_⟩
    simp only [hold_app2, mk_called, Pos.isHp, List.filter_nil, mk_put?_some, dropLk, hold_app, tS_cons, g_some, gq_succ, gq_zero, Nat.reduceLT, gs1_eq, Nat.reduceBEq, look_miss, look_hit, gs2_tt, mk_setT, o_len, rho_tmp, dl31, List.length_map, seeK1, nc0, o_bin, nil_int, Bool.false_eq_true, rho_const, constDV, b_eql, decide_true, g_none, o_pick, pk, vroA_bool, if_true, o_assign, take_tmp, takK, mk_put, tS_nil, w_ret, ret_one, vfla_bool, true_and, if_false]
    exact hK _ ((((hF'.trans hF2).trans hF3).trans hF4).trans hF5)
end Go.Ab.Or
