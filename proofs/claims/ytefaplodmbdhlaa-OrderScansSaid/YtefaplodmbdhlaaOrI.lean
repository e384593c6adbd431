/- A part of the proofs that a law function returns true at every input; it has no condition of its own. -/
import Derived.Test.YtefaplodmbdhlaaOrH
set_option linter.unusedSimpArgs false
set_option linter.unusedVariables false
/- OrI: The order laws: deals held against themselves. -/
namespace Go.Ab.Or
open Go Go.Conc Go.RowKit Go.Ab
set_option maxRecDepth 10000
/-- A deal's reads and writes. -/
structure DW (H : List HObj) (a : DC) (rs : List RD) (ws : List WR) : Prop where
  r : RowV H 5 a.r (List.map RD.cells rs)
  w : a.w = .sl false 3 (ws.map wrD)
  rl : rs.length < 4611686018427387904
  wl : ws.length < 4611686018427387904
  pl : ∀ r ∈ rs, r.pairs.length < 4611686018427387904
theorem DW.fr {H H' : List HObj} {a : DC} {rs : List RD} {ws : List WR} (h : DW H a rs ws) (f : Fr H H' []) : DW H' a rs ws := ⟨h.r.fr f, h.w, h.rl, h.wl, h.pl⟩
theorem DW.ok {H : List HObj} {a : DC} {rs : List RD} {ws : List WR} (h : DW H a rs ws) : a.ok := ⟨h.r.ro1, h.r.scalar, by rw [h.w]; rfl, by rw [h.w]; rfl⟩
noncomputable def b24 : Code := (Go.Proofs.Try.f24.body).getD .skip
theorem hb24 : Go.Proofs.Try.f24.body = some b24 := by kernel_rfl
def SSD : Spec := fun H args K => ∃ a rs ws, args = [.agg (DC.cells a), .agg (DC.cells a)] ∧ DW H a rs ws ∧ K H (.bool true)
set_option maxHeartbeats 4000000 in
theorem rcSD {I : Jd pp} (hI : ∀ w e, I.Ok w e) : RC I 24 SSD := by
  refine rc_of_code (isObj := isO) (Γ := envOf [(32, SSR), (33, SSame 3 wrD)]) (rs := [4]) mixed hI (envOf_rc (by simpa using ⟨rcSR hI, rcSameW hI⟩)) Go.Proofs.Try.func24 (by kernel_rfl) hb24 Go.Proofs.Try.results24 Go.Proofs.Try.ntmps24 (by decide) ?_
  rintro H args K ⟨a, rs, ws, rfl, h, hK⟩
  have hw := h.w
  have hr := h.r
  rcases a with ⟨lv, n, tn, r, w⟩
  dsimp only at hw hr
  subst hw
  rcases hr with rfl | ⟨id, off, cs, rfl, hid, hat⟩
  ·
    refine ⟨by simp, rfl, ?_⟩
    unfold b24 Go.Proofs.Try.f24
    simp only [Option.getD_some, argSlots, DC.cells, vro_agg, List.map_cons, vro1_int, vro1_sl, List.map_nil, Nat.zero_add, w_seq, w_region, mk_clean, tS_cons, g_none, hold_app, o_box, Nat.reduceLT, take_tmp, takK, look_hit, vcl_agg, List.all_cons, vsca_int, vsca_sl, List.all_nil, Bool.and_self, nv_if, isO_eq, Nat.reduceBEq, Bool.or_self, Bool.false_eq_true, dropLk, bgen_eq, bget_nil, bset_nil, if_false, look_miss, bget_cons, Nat.reduceEqDiff, bset_cons, o_assign, take_const, constDV, mk_put, tS_nil, hold_app2, o_fieldAddr, rho_tmp, fl30_0, Nat.add_zero, mk_put?_some, o_load, ld_b, if_true, dlb_some, List.drop_zero, la3, vro_int, lo_int, o_bin, nil_tmp, b_eql, decide_true, o_move, move_tmp, movK, vroA_bool, g_some, gq_succ, gq_zero, gs1_eq, gs2_tt, mk_setT, fl30_1, List.drop_succ_cons, o_pick, rho_const, pk, fl30_2, fl30_3, la28, vro_sl, lo_sl, addrPos, ia28, Pos.atSlot, o_fn, args_cons, args_nil, mk_H, env_cons, dcl_some, vfla_sl, true_and]
    refine ⟨_, rs, rfl, .inl rfl, h.rl, h.pl, ?_⟩
    simp only [hold_app2, mk_called, Pos.isHp, List.filter_cons, Bool.not_false, List.filter_nil, if_true, mk_put?_some, dropLk, Nat.reduceBEq, Pos.atSlot, Bool.or_self, Bool.false_eq_true, if_false, hold_app, tS_cons, g_none, o_pick, Nat.reduceLT, rho_tmp, look_miss, look_hit, rho_const, constDV, pk, vroA_bool, o_move, move_tmp, movK, g_some, gq_succ, gq_zero, gs1_eq, gs2_tt, mk_setT, o_fieldAddr, fl30_4, Nat.zero_add, o_load, ld_b, bget_cons, Nat.reduceEqDiff, bget_nil, dlb_some, List.drop_succ_cons, List.drop_zero, la27, vro_sl, lo_sl, addrPos, ia27, o_fn, args_cons, args_nil, mk_H, env_cons, dcl_some, List.all_cons, vfla_sl, List.all_nil, Bool.and_self, List.map_cons, List.map_nil, true_and]
    refine appSame h.wl h.wl ?_
    simp only [decide_true, hold_app2, mk_called, Pos.isHp, List.filter_cons, Bool.not_false, List.filter_nil, if_true, mk_put?_some, dropLk, Nat.reduceBEq, Pos.atSlot, Bool.or_self, Bool.false_eq_true, if_false, hold_app, tS_cons, g_none, o_pick, Nat.reduceLT, rho_tmp, look_miss, look_hit, rho_const, constDV, pk, vroA_bool, o_assign, take_tmp, takK, mk_put, tS_nil, w_ret, ret_one, vfla_bool, true_and]
    exact hK
  ·
    refine ⟨by simp, rfl, ?_⟩
    unfold b24 Go.Proofs.Try.f24
    simp only [Option.getD_some, argSlots, DC.cells, vro_agg, List.map_cons, vro1_int, vro1_hsl, vro1_sl, List.map_nil, Nat.zero_add, w_seq, w_region, mk_clean, tS_cons, g_none, hold_app, o_box, Nat.reduceLT, take_tmp, takK, look_hit, vcl_agg, List.all_cons, vsca_int, vsca_hsl, vsca_sl, List.all_nil, Bool.and_self, nv_if, isO_eq, Nat.reduceBEq, Bool.or_self, Bool.false_eq_true, dropLk, bgen_eq, bget_nil, bset_nil, if_false, look_miss, bget_cons, Nat.reduceEqDiff, bset_cons, o_assign, take_const, constDV, mk_put, tS_nil, hold_app2, o_fieldAddr, rho_tmp, fl30_0, Nat.add_zero, mk_put?_some, o_load, ld_b, if_true, dlb_some, List.drop_zero, la3, vro_int, lo_int, o_bin, nil_tmp, b_eql, decide_true, o_move, move_tmp, movK, vroA_bool, g_some, gq_succ, gq_zero, gs1_eq, gs2_tt, mk_setT, fl30_1, List.drop_succ_cons, o_pick, rho_const, pk, fl30_2, fl30_3, la28, vro_hsl, lo_hsl, o_fn, args_cons, args_nil, mk_H, env_cons, dcl_some, vfla_hsl, true_and]
    refine ⟨_, rs, rfl, .inr ⟨id, off, cs, by rw [List.length_map], hid, hat⟩, h.rl, h.pl, ?_⟩
    simp only [hold_app2, mk_called, Pos.isHp, List.filter_nil, mk_put?_some, dropLk, hold_app, tS_cons, g_none, o_pick, Nat.reduceLT, rho_tmp, Nat.reduceBEq, look_miss, look_hit, rho_const, constDV, pk, vroA_bool, if_true, o_move, move_tmp, movK, g_some, gq_succ, gq_zero, gs1_eq, gs2_tt, mk_setT, o_fieldAddr, fl30_4, Nat.zero_add, o_load, ld_b, bget_cons, Nat.reduceEqDiff, bget_nil, if_false, dlb_some, List.drop_succ_cons, List.drop_zero, la27, vro_sl, lo_sl, addrPos, ia27, Bool.false_eq_true, Pos.atSlot, Bool.or_self, o_fn, args_cons, args_nil, mk_H, env_cons, dcl_some, List.all_cons, vfla_sl, List.all_nil, Bool.and_self, List.map_cons, List.map_nil, true_and]
    refine appSame h.wl h.wl ?_
    simp only [decide_true, hold_app2, mk_called, Pos.isHp, List.filter_cons, Bool.not_false, List.filter_nil, if_true, mk_put?_some, dropLk, Nat.reduceBEq, Pos.atSlot, Bool.or_self, Bool.false_eq_true, if_false, hold_app, tS_cons, g_none, o_pick, Nat.reduceLT, rho_tmp, look_miss, look_hit, rho_const, constDV, pk, vroA_bool, o_assign, take_tmp, takK, mk_put, tS_nil, w_ret, ret_one, vfla_bool, true_and]
    exact hK
noncomputable def b10 : Code := (Go.Proofs.Try.f10.body).getD .skip
theorem hb10 : Go.Proofs.Try.f10.body = some b10 := by kernel_rfl
/-- Two rows of deals that are alike, whatever they lie in. -/
def SSDs : Spec := fun H args K => ∃ v v' ds, args = [v, v'] ∧ RowV H 5 v (List.map DC.cells ds) ∧ RowV H 5 v' (List.map DC.cells ds) ∧ ds.length < 4611686018427387904 ∧ (∀ a ∈ ds, ∃ rs ws, DW H a rs ws) ∧ K H (.bool true)
def MSDs (H : List HObj) (v v' : DV) (n m : Nat) (st : St) : Prop := ∃ i : Nat, i ≤ n ∧ m = n - i ∧ st = mk 27 [(0, v), (1, v'), (5, .int .i64 i)] [] H []
set_option maxHeartbeats 4000000 in
theorem rcSDs {I : Jd pp} (hI : ∀ w e, I.Ok w e) : RC I 10 SSDs := by
  refine rc_of_code (isObj := isO) (Γ := envOf [(24, SSD)]) (rs := [4]) mixed hI (envOf_rc (by simpa using rcSD hI)) Go.Proofs.Try.func10 (by kernel_rfl) hb10 Go.Proofs.Try.results10 Go.Proofs.Try.ntmps10 (by decide) ?_
  rintro H args K ⟨v, v', ds, rfl, hv, hv', hl, hd, hK⟩
  rcases hv with rfl | ⟨id, off, cs, rfl, hid, hat⟩ <;> rcases hv' with rfl | ⟨id', off', cs', rfl, hid', hat'⟩
  ·
    refine ⟨by simp, rfl, ?_⟩
    unfold b10 Go.Proofs.Try.f10
    simp only [Option.getD_some, argSlots, vro_sl, Nat.zero_add, w_seq, w_region, mk_clean, tS_cons, g_none, hold_app, o_assign, take_const, constDV, mk_put, dropLk, tS_nil, hold_app2, o_move, Nat.reduceLT, move_tmp, movK, Nat.reduceBEq, look_miss, look_hit, lkGet, o_len, rho_tmp, dl24, List.length_map, mk_put?_some, o_bin, nil_tmp, Bool.false_eq_true, b_neq, ne_eq, not_true_eq_false, decide_false, w_cond, cd_f, w_skip, w_block, if_false]
    refine w_loop [0, 1, 5] (MSDs H (.sl false 5 ((ds.map DC.cells).map .agg)) (.sl false 5 ((ds.map DC.cells).map .agg)) ds.length) ds.length ?_ ?_
    · exact ⟨0, by omega, by omega, by simp only [mk_forget, List.map_cons, Nat.reduceBEq, look_miss, look_hit, List.map_nil, nc0]; try rfl⟩
    · rintro m st ⟨i, hi, rfl, rfl⟩
      by_cases e : i < ds.length
      · have e1 : (i : Int) < ds.length := by omega
        have e2 : (0 : Int) ≤ i := by omega
        have wi : IntKind.i64.wrap ((i : Int) + 1) = ((i + 1 : Nat) : Int) := by rw [wrap_i64 (by omega) (by omega)]; omega
        obtain ⟨rs, ws, hw⟩ := hd _ (List.getElem_mem e)
        obtain ⟨a1, a2, a3, a4⟩ := hw.ok
        have hx : ((ds.map DC.cells).map DV.agg).getD i .undef = .agg ds[i].cells := by rw [getD_map _ _ i (by simpa using e)]; simp
        simp only [w_seq, w_region, mk_clean, tS_cons, g_none, hold_app, o_move, Nat.reduceLT, move_tmp, movK, Nat.reduceBEq, look_miss, look_hit, vroA_int, dropLk, lkGet, o_len, rho_tmp, dl24, List.length_map, mk_put?_some, o_bin, nil_tmp, Bool.false_eq_true, b_lss, e1, decide_true, tS_nil, hold_app2, w_cond, cd, w_skip, w_block, true_implies, Bool.true_eq_false, w_exit, o_assign, take_const, constDV, mk_put, w_ret, ret_one, vfla_bool, true_and, if_true, false_implies, and_true, if_false]
        refine w_draw [8] (.quiet 0 (.quiet 1 (.quiet 2 (.quiet 3 (.quiet 4 (.quiet 5 (.quiet 6 (.quiet 7 (.acts [(8, [], .quiet 9 (.done))]))))))))) (by decide) (by kernel_rfl) ?_
        simp only [mk_clean, rp_quiet, rpQ_zero, g_none, hold_app, q_move, Nat.reduceLT, rho_tmp, Nat.reduceBEq, look_miss, look_hit, vroA_sl, ex_eq, mk_put, dropLk, rpQ_succ, vroA_int, q_indexAddr, ix24, e2, List.length_map, e1, Int.toNat_natCast, hx, DC.cells, vcl_agg, true_and, q_load, ld_vptr, la30, List.length_cons, List.length_nil, Nat.zero_add, Nat.reduceAdd, Nat.reduceLeDiff, List.take_succ_cons, List.take_zero, List.map_cons, vro1_int, a1, a3, List.map_nil, rp_acts, ra_cons, rpA_succ, rpA_zero, o_fn, args_cons, args_nil, mk_H, env_cons, if_true, dcl_some, List.all_cons, vfla_agg, List.all_nil, Bool.and_self, vro_agg, ra_nil, and_true]
        refine ⟨ds[i], rs, ws, rfl, hw, ?_⟩
        simp only [hold_app2, mk_called, Pos.isHp, List.filter_nil, mk_put?_some, dropLk, hold_app, rcA_nil, slL_nil, mk_unlink, dropLks, rp_quiet, rpQ_succ, rpQ_zero, g_none, q_un, Nat.reduceLT, rho_tmp, look_hit, u_not, Bool.not_true, ex_eq, mk_put, rp_done, w_cond, cd_f, w_skip, w_region, mk_clean, tS_cons, o_move, move_tmp, movK, Nat.reduceBEq, look_miss, vroA_int, o_bin, nil_int, Bool.false_eq_true, rho_const, constDV, b_add, wi, o_assign, take_tmp, takK, tS_nil, mk_forget, List.map_cons, List.map_nil, if_false, true_and]
        exact ⟨_, by omega, i + 1, by omega, rfl, rfl⟩
      · have e0 : i = ds.length := by omega
        subst e0
        simp only [w_seq, w_region, mk_clean, tS_cons, g_none, hold_app, o_move, Nat.reduceLT, move_tmp, movK, Nat.reduceBEq, look_miss, look_hit, vroA_int, dropLk, lkGet, o_len, rho_tmp, dl24, List.length_map, mk_put?_some, o_bin, nil_tmp, Bool.false_eq_true, b_lss, Int.lt_irrefl, decide_false, tS_nil, hold_app2, w_cond, cd_f, w_exit, o_assign, take_const, constDV, mk_put, w_ret, ret_one, vfla_bool, true_and, if_true, if_false]
        exact hK
  ·
    refine ⟨by simp, rfl, ?_⟩
    unfold b10 Go.Proofs.Try.f10
    simp only [Option.getD_some, argSlots, vro_sl, Nat.zero_add, List.length_map, vro_hsl, w_seq, w_region, mk_clean, tS_cons, g_none, hold_app, o_assign, take_const, constDV, mk_put, dropLk, tS_nil, hold_app2, o_move, Nat.reduceLT, move_tmp, movK, Nat.reduceBEq, look_miss, look_hit, lkGet, o_len, rho_tmp, dl24, mk_put?_some, vroA_hsl, dlh24, o_bin, nil_tmp, Bool.false_eq_true, b_neq, ne_eq, not_true_eq_false, decide_false, w_cond, cd_f, w_skip, w_block, if_false]
    refine w_loop [0, 1, 5] (MSDs H (.sl false 5 ((ds.map DC.cells).map .agg)) (.hsl id' 5 off' ds.length) ds.length) ds.length ?_ ?_
    · exact ⟨0, by omega, by omega, by simp only [mk_forget, List.map_cons, Nat.reduceBEq, look_miss, look_hit, List.map_nil, nc0]; try rfl⟩
    · rintro m st ⟨i, hi, rfl, rfl⟩
      by_cases e : i < ds.length
      · have e1 : (i : Int) < ds.length := by omega
        have e2 : (0 : Int) ≤ i := by omega
        have wi : IntKind.i64.wrap ((i : Int) + 1) = ((i + 1 : Nat) : Int) := by rw [wrap_i64 (by omega) (by omega)]; omega
        obtain ⟨rs, ws, hw⟩ := hd _ (List.getElem_mem e)
        obtain ⟨a1, a2, a3, a4⟩ := hw.ok
        have hx : ((ds.map DC.cells).map DV.agg).getD i .undef = .agg ds[i].cells := by rw [getD_map _ _ i (by simpa using e)]; simp
        obtain ⟨r', rest', hz, hro⟩ := hat' i ds[i].cells (by simp [e])
        obtain ⟨r2, w2, rfl, hr2, hw2⟩ := dc_ro hro
        have hz : cs'.drop (off' + i * 5) = .int .i64 ds[i].lv :: .int .i64 ds[i].n :: .int .i64 ds[i].turn :: r2 :: w2 :: rest' := hz
        simp only [w_seq, w_region, mk_clean, tS_cons, g_none, hold_app, o_move, Nat.reduceLT, move_tmp, movK, Nat.reduceBEq, look_miss, look_hit, vroA_int, dropLk, lkGet, o_len, rho_tmp, dl24, List.length_map, mk_put?_some, o_bin, nil_tmp, Bool.false_eq_true, b_lss, e1, decide_true, tS_nil, hold_app2, w_cond, cd, w_skip, w_block, true_implies, Bool.true_eq_false, w_exit, o_assign, take_const, constDV, mk_put, w_ret, ret_one, vfla_bool, true_and, if_true, false_implies, and_true, if_false]
        refine w_draw [8] (.quiet 0 (.quiet 1 (.quiet 2 (.quiet 3 (.quiet 4 (.quiet 5 (.quiet 6 (.quiet 7 (.acts [(8, [], .quiet 9 (.done))]))))))))) (by decide) (by kernel_rfl) ?_
        simp only [mk_clean, rp_quiet, rpQ_zero, g_none, hold_app, q_move, Nat.reduceLT, rho_tmp, Nat.reduceBEq, look_miss, look_hit, vroA_sl, ex_eq, mk_put, dropLk, rpQ_succ, vroA_int, q_indexAddr, ix24, e2, List.length_map, e1, Int.toNat_natCast, hx, DC.cells, vcl_agg, true_and, q_load, ld_vptr, la30, List.length_cons, List.length_nil, Nat.zero_add, Nat.reduceAdd, Nat.reduceLeDiff, List.take_succ_cons, List.take_zero, List.map_cons, vro1_int, a1, a3, List.map_nil, vroA_hsl, ixh24, ld_h, hid', dlh_some, hz, hr2, hw2, rp_acts, ra_cons, rpA_succ, rpA_zero, o_fn, args_cons, args_nil, mk_H, env_cons, if_true, dcl_some, List.all_cons, vfla_agg, List.all_nil, Bool.and_self, vro_agg, ra_nil, and_true]
        refine ⟨ds[i], rs, ws, rfl, hw, ?_⟩
        simp only [hold_app2, mk_called, Pos.isHp, List.filter_nil, mk_put?_some, dropLk, hold_app, rcA_nil, slL_nil, mk_unlink, dropLks, rp_quiet, rpQ_succ, rpQ_zero, g_none, q_un, Nat.reduceLT, rho_tmp, look_hit, u_not, Bool.not_true, ex_eq, mk_put, rp_done, w_cond, cd_f, w_skip, w_region, mk_clean, tS_cons, o_move, move_tmp, movK, Nat.reduceBEq, look_miss, vroA_int, o_bin, nil_int, Bool.false_eq_true, rho_const, constDV, b_add, wi, o_assign, take_tmp, takK, tS_nil, mk_forget, List.map_cons, List.map_nil, if_false, true_and]
        exact ⟨_, by omega, i + 1, by omega, rfl, rfl⟩
      · have e0 : i = ds.length := by omega
        subst e0
        simp only [w_seq, w_region, mk_clean, tS_cons, g_none, hold_app, o_move, Nat.reduceLT, move_tmp, movK, Nat.reduceBEq, look_miss, look_hit, vroA_int, dropLk, lkGet, o_len, rho_tmp, dl24, List.length_map, mk_put?_some, o_bin, nil_tmp, Bool.false_eq_true, b_lss, Int.lt_irrefl, decide_false, tS_nil, hold_app2, w_cond, cd_f, w_exit, o_assign, take_const, constDV, mk_put, w_ret, ret_one, vfla_bool, true_and, if_true, if_false]
        exact hK
  ·
    refine ⟨by simp, rfl, ?_⟩
    unfold b10 Go.Proofs.Try.f10
    simp only [Option.getD_some, argSlots, List.length_map, vro_hsl, Nat.zero_add, vro_sl, w_seq, w_region, mk_clean, tS_cons, g_none, hold_app, o_assign, take_const, constDV, mk_put, dropLk, tS_nil, hold_app2, o_move, Nat.reduceLT, move_tmp, movK, Nat.reduceBEq, look_miss, look_hit, vroA_hsl, o_len, rho_tmp, dlh24, mk_put?_some, lkGet, dl24, o_bin, nil_tmp, Bool.false_eq_true, b_neq, ne_eq, not_true_eq_false, decide_false, w_cond, cd_f, w_skip, w_block, if_false]
    refine w_loop [0, 1, 5] (MSDs H (.hsl id 5 off ds.length) (.sl false 5 ((ds.map DC.cells).map .agg)) ds.length) ds.length ?_ ?_
    · exact ⟨0, by omega, by omega, by simp only [mk_forget, List.map_cons, Nat.reduceBEq, look_miss, look_hit, List.map_nil, nc0]; try rfl⟩
    · rintro m st ⟨i, hi, rfl, rfl⟩
      by_cases e : i < ds.length
      · have e1 : (i : Int) < ds.length := by omega
        have e2 : (0 : Int) ≤ i := by omega
        have wi : IntKind.i64.wrap ((i : Int) + 1) = ((i + 1 : Nat) : Int) := by rw [wrap_i64 (by omega) (by omega)]; omega
        obtain ⟨rs, ws, hw⟩ := hd _ (List.getElem_mem e)
        obtain ⟨a1, a2, a3, a4⟩ := hw.ok
        have hx : ((ds.map DC.cells).map DV.agg).getD i .undef = .agg ds[i].cells := by rw [getD_map _ _ i (by simpa using e)]; simp
        obtain ⟨r', rest, hy, hro⟩ := hat i ds[i].cells (by simp [e])
        obtain ⟨r1, w1, rfl, hr1, hw1⟩ := dc_ro hro
        have hy : cs.drop (off + i * 5) = .int .i64 ds[i].lv :: .int .i64 ds[i].n :: .int .i64 ds[i].turn :: r1 :: w1 :: rest := hy
        simp only [w_seq, w_region, mk_clean, tS_cons, g_none, hold_app, o_move, Nat.reduceLT, move_tmp, movK, Nat.reduceBEq, look_miss, look_hit, vroA_int, dropLk, vroA_hsl, o_len, rho_tmp, dlh24, mk_put?_some, o_bin, nil_tmp, Bool.false_eq_true, b_lss, e1, decide_true, tS_nil, hold_app2, w_cond, cd, w_skip, w_block, true_implies, Bool.true_eq_false, w_exit, o_assign, take_const, constDV, mk_put, w_ret, ret_one, vfla_bool, true_and, if_true, false_implies, and_true, if_false]
        refine w_draw [8] (.quiet 0 (.quiet 1 (.quiet 2 (.quiet 3 (.quiet 4 (.quiet 5 (.quiet 6 (.quiet 7 (.acts [(8, [], .quiet 9 (.done))]))))))))) (by decide) (by kernel_rfl) ?_
        simp only [mk_clean, rp_quiet, rpQ_zero, g_none, hold_app, q_move, Nat.reduceLT, rho_tmp, Nat.reduceBEq, look_miss, look_hit, vroA_hsl, ex_eq, mk_put, dropLk, rpQ_succ, vroA_int, q_indexAddr, ixh24, e2, e1, Int.toNat_natCast, true_and, q_load, ld_h, hid, dlh_some, hy, la30, List.length_cons, Nat.reduceLeDiff, List.take_succ_cons, List.take_zero, List.map_cons, vro1_int, hr1, hw1, List.map_nil, vroA_sl, ix24, List.length_map, hx, DC.cells, vcl_agg, ld_vptr, List.length_nil, Nat.zero_add, Nat.reduceAdd, a1, a3, rp_acts, ra_cons, rpA_succ, rpA_zero, o_fn, args_cons, args_nil, mk_H, env_cons, if_true, dcl_some, List.all_cons, vfla_agg, List.all_nil, Bool.and_self, vro_agg, ra_nil, and_true]
        refine ⟨ds[i], rs, ws, rfl, hw, ?_⟩
        simp only [hold_app2, mk_called, Pos.isHp, List.filter_nil, mk_put?_some, dropLk, hold_app, rcA_nil, slL_nil, mk_unlink, dropLks, rp_quiet, rpQ_succ, rpQ_zero, g_none, q_un, Nat.reduceLT, rho_tmp, look_hit, u_not, Bool.not_true, ex_eq, mk_put, rp_done, w_cond, cd_f, w_skip, w_region, mk_clean, tS_cons, o_move, move_tmp, movK, Nat.reduceBEq, look_miss, vroA_int, o_bin, nil_int, Bool.false_eq_true, rho_const, constDV, b_add, wi, o_assign, take_tmp, takK, tS_nil, mk_forget, List.map_cons, List.map_nil, if_false, true_and]
        exact ⟨_, by omega, i + 1, by omega, rfl, rfl⟩
      · have e0 : i = ds.length := by omega
        subst e0
        simp only [w_seq, w_region, mk_clean, tS_cons, g_none, hold_app, o_move, Nat.reduceLT, move_tmp, movK, Nat.reduceBEq, look_miss, look_hit, vroA_int, dropLk, vroA_hsl, o_len, rho_tmp, dlh24, mk_put?_some, o_bin, nil_tmp, Bool.false_eq_true, b_lss, Int.lt_irrefl, decide_false, tS_nil, hold_app2, w_cond, cd_f, w_exit, o_assign, take_const, constDV, mk_put, w_ret, ret_one, vfla_bool, true_and, if_true, if_false]
        exact hK
  ·
    refine ⟨by simp, rfl, ?_⟩
    unfold b10 Go.Proofs.Try.f10
    simp only [Option.getD_some, argSlots, List.length_map, vro_hsl, Nat.zero_add, w_seq, w_region, mk_clean, tS_cons, g_none, hold_app, o_assign, take_const, constDV, mk_put, dropLk, tS_nil, hold_app2, o_move, Nat.reduceLT, move_tmp, movK, Nat.reduceBEq, look_miss, look_hit, vroA_hsl, o_len, rho_tmp, dlh24, mk_put?_some, o_bin, nil_tmp, Bool.false_eq_true, b_neq, ne_eq, not_true_eq_false, decide_false, w_cond, cd_f, w_skip, w_block, if_false]
    refine w_loop [0, 1, 5] (MSDs H (.hsl id 5 off ds.length) (.hsl id' 5 off' ds.length) ds.length) ds.length ?_ ?_
    · exact ⟨0, by omega, by omega, by simp only [mk_forget, List.map_cons, Nat.reduceBEq, look_miss, look_hit, List.map_nil, nc0]; try rfl⟩
    · rintro m st ⟨i, hi, rfl, rfl⟩
      by_cases e : i < ds.length
      · have e1 : (i : Int) < ds.length := by omega
        have e2 : (0 : Int) ≤ i := by omega
        have wi : IntKind.i64.wrap ((i : Int) + 1) = ((i + 1 : Nat) : Int) := by rw [wrap_i64 (by omega) (by omega)]; omega
        obtain ⟨rs, ws, hw⟩ := hd _ (List.getElem_mem e)
        obtain ⟨a1, a2, a3, a4⟩ := hw.ok
        obtain ⟨r', rest, hy, hro⟩ := hat i ds[i].cells (by simp [e])
        obtain ⟨r1, w1, rfl, hr1, hw1⟩ := dc_ro hro
        have hy : cs.drop (off + i * 5) = .int .i64 ds[i].lv :: .int .i64 ds[i].n :: .int .i64 ds[i].turn :: r1 :: w1 :: rest := hy
        obtain ⟨r', rest', hz, hro⟩ := hat' i ds[i].cells (by simp [e])
        obtain ⟨r2, w2, rfl, hr2, hw2⟩ := dc_ro hro
        have hz : cs'.drop (off' + i * 5) = .int .i64 ds[i].lv :: .int .i64 ds[i].n :: .int .i64 ds[i].turn :: r2 :: w2 :: rest' := hz
        simp only [w_seq, w_region, mk_clean, tS_cons, g_none, hold_app, o_move, Nat.reduceLT, move_tmp, movK, Nat.reduceBEq, look_miss, look_hit, vroA_int, dropLk, vroA_hsl, o_len, rho_tmp, dlh24, mk_put?_some, o_bin, nil_tmp, Bool.false_eq_true, b_lss, e1, decide_true, tS_nil, hold_app2, w_cond, cd, w_skip, w_block, true_implies, Bool.true_eq_false, w_exit, o_assign, take_const, constDV, mk_put, w_ret, ret_one, vfla_bool, true_and, if_true, false_implies, and_true, if_false]
        refine w_draw [8] (.quiet 0 (.quiet 1 (.quiet 2 (.quiet 3 (.quiet 4 (.quiet 5 (.quiet 6 (.quiet 7 (.acts [(8, [], .quiet 9 (.done))]))))))))) (by decide) (by kernel_rfl) ?_
        simp only [mk_clean, rp_quiet, rpQ_zero, g_none, hold_app, q_move, Nat.reduceLT, rho_tmp, Nat.reduceBEq, look_miss, look_hit, vroA_hsl, ex_eq, mk_put, dropLk, rpQ_succ, vroA_int, q_indexAddr, ixh24, e2, e1, Int.toNat_natCast, true_and, q_load, ld_h, hid, dlh_some, hy, la30, List.length_cons, Nat.reduceLeDiff, List.take_succ_cons, List.take_zero, List.map_cons, vro1_int, hr1, hw1, List.map_nil, hid', hz, hr2, hw2, rp_acts, ra_cons, rpA_succ, rpA_zero, o_fn, args_cons, args_nil, mk_H, env_cons, if_true, dcl_some, List.all_cons, vfla_agg, List.all_nil, Bool.and_self, vro_agg, a1, a3, ra_nil, and_true]
        refine ⟨ds[i], rs, ws, rfl, hw, ?_⟩
        simp only [hold_app2, mk_called, Pos.isHp, List.filter_nil, mk_put?_some, dropLk, hold_app, rcA_nil, slL_nil, mk_unlink, dropLks, rp_quiet, rpQ_succ, rpQ_zero, g_none, q_un, Nat.reduceLT, rho_tmp, look_hit, u_not, Bool.not_true, ex_eq, mk_put, rp_done, w_cond, cd_f, w_skip, w_region, mk_clean, tS_cons, o_move, move_tmp, movK, Nat.reduceBEq, look_miss, vroA_int, o_bin, nil_int, Bool.false_eq_true, rho_const, constDV, b_add, wi, o_assign, take_tmp, takK, tS_nil, mk_forget, List.map_cons, List.map_nil, if_false, true_and]
        exact ⟨_, by omega, i + 1, by omega, rfl, rfl⟩
      · have e0 : i = ds.length := by omega
        subst e0
        simp only [w_seq, w_region, mk_clean, tS_cons, g_none, hold_app, o_move, Nat.reduceLT, move_tmp, movK, Nat.reduceBEq, look_miss, look_hit, vroA_int, dropLk, vroA_hsl, o_len, rho_tmp, dlh24, mk_put?_some, o_bin, nil_tmp, Bool.false_eq_true, b_lss, Int.lt_irrefl, decide_false, tS_nil, hold_app2, w_cond, cd_f, w_exit, o_assign, take_const, constDV, mk_put, w_ret, ret_one, vfla_bool, true_and, if_true, if_false]
        exact hK
end Go.Ab.Or
