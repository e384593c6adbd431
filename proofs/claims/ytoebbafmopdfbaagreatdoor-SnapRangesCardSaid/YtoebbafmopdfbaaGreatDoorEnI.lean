/- A part of the proofs that a law function returns true at every input; it has no condition of its own. -/
import Derived.Test.YtoebbafmopdfbaaGreatDoorEnG
set_option linter.unusedSimpArgs false
set_option linter.unusedVariables false
/- EnI: The engine's laws: batches as bytes, as entries. -/
namespace Go.Ab.En
open Go Go.Conc Go.RowKit Go.Ab
set_option maxRecDepth 10000
theorem textB_len (s : Str) : (textB s).length ≤ s.length + 9 := by
  have := numB_len s.length
  simp [textB]; omega
theorem valB_len (d : Bool) (v : Str) : (valB d v).length ≤ v.length + 10 := by
  have := textB_len v
  cases d <;> simp [valB] <;> omega
noncomputable def b138 : Code := (Go.Proofs.Tryz.f138.body).getD .skip
theorem hb138 : Go.Proofs.Tryz.f138.body = some b138 := by kernel_rfl
def wrB (w : Wr) : Str := textB w.key ++ valB w.del w.val
def wordsB (ws : List Wr) : Str := numB ws.length ++ ws.flatMap wrB
/-- Small enough. -/
def SmW (ws : List Wr) : Prop := ws.length < 1000000000 ∧ ∀ w ∈ ws, w.key.length ≤ 100 ∧ w.val.length ≤ 100
theorem words_len {ws : List Wr} (h : ∀ w ∈ ws, w.key.length ≤ 100 ∧ w.val.length ≤ 100) : (ws.flatMap wrB).length ≤ 300 * ws.length := by
  induction ws with
  | nil => simp
  | cons w r ih =>
    have h1 := ih fun x hx => h x (by simp [hx])
    have h2 := h w (by simp)
    have h3 := textB_len w.key
    have h4 := valB_len w.del w.val
    simp only [List.flatMap_cons, List.length_append, wrB, List.length_cons] at *
    omega
def SWords : Spec := fun H args K => ∃ (v : DV) (ws : List Wr), args = [v] ∧ RowW H v ws ∧ SmW ws ∧ K H (.str (wordsB ws))
theorem appWords {H : List HObj} {K : List HObj → DV → Prop} {v : DV} (ws : List Wr) (h1 : RowW H v ws) (h2 : SmW ws) (h : K H (.str (wordsB ws))) : app SWords H [v] K := ⟨v, ws, rfl, h1, h2, h⟩
def MWd (H : List HObj) (v : DV) (ws : List Wr) (m : Nat) (st : St) : Prop := ∃ (i : Nat) (B : List (Nat × Nat × List DV)), i ≤ ws.length ∧ m = ws.length - i ∧ (B = [] ∨ ∃ g c, B = [(5, g, c)]) ∧
  st = mk 28 [(3, .str (numB ws.length ++ (ws.take i).flatMap wrB)), (9, v), (10, .int .i64 ws.length), (11, .int .i64 i)] B H []
set_option maxHeartbeats 8000000 in
theorem rcWords {I : Jd pp} (hI : ∀ w e, I.Ok w e) : RC I 138 SWords := by
  refine rc_of_code (isObj := noO) (Γ := envOf [(137, SNum), (183, SText), (206, SVal)]) (rs := [2]) mixed hI (envOf_rc (by simpa using ⟨rcNum hI, rcText hI, rcVal hI⟩)) Go.Proofs.Tryz.func138 (by kernel_rfl) hb138 Go.Proofs.Tryz.results138 Go.Proofs.Tryz.ntmps138 (by decide) ?_
  rintro H args K ⟨v, ws, rfl, hv, ⟨hl, hsm⟩, hK⟩
  rcases hv with ⟨own, rfl⟩ | ⟨id, off, cap, rfl, hr⟩
  · skip
    refine ⟨by simp, rfl, ?_⟩
    unfold b138 Go.Proofs.Tryz.f138
    simp only [Option.getD_some, argSlots, vro_sl, w_seq, w_region, mk_clean, tS_cons, g_none, hold_app, o_assign, take_const, constDV, mk_put, dropLk, tS_nil, hold_app2, o_move, Nat.reduceLT, move_tmp, movK, Nat.reduceBEq, look_miss, look_hit, lkGet, o_len, rho_tmp, dl33, List.length_map, mk_put?_some, o_fn, args_cons, args_nil, mk_H, env_cons, Nat.reduceEqDiff, if_false, if_true, dcl_some, List.all_cons, vfla_int, List.all_nil, Bool.and_self, List.map_cons, vro_int, List.map_nil, true_and]
    refine appNum (by omega) ?_
    simp only [hold_app2, mk_called, Pos.isHp, List.filter_nil, mk_put?_some, dropLk, hold_app, tS_cons, g_none, o_assign, Nat.reduceLT, take_tmp, takK, look_hit, vroA_str, mk_put, tS_nil, w_seq, w_region, mk_clean, o_move, move_tmp, movK, Nat.reduceBEq, look_miss, lkGet, o_len, rho_tmp, dl33, List.length_map, move_const, constDV, vroA_int, w_block]
    refine w_loop [3, 9, 10, 11] (MWd H (.sl false 3 (ws.map wrD)) ws) ws.length ?_ ?_
    · exact ⟨0, [], by omega, by omega, .inl rfl, by simp only [o_clo, clo_fn, dcl2_some, hold_app, hold_app2, move_tmp, move_const, take_tmp, take_const, rho_tmp, rho_const, mk_put, mk_put?_some, mk_put?_none, mk_setT, mk_newMap, mk_newFun, mk_forget, vro1_bool, vro_bool, vroA_bool, vcl_bool, vsca_bool, vfla_bool, vro1_int, vro_int, vroA_int, vcl_int, vsca_int, vfla_int, vro1_str, vro_str, vroA_str, vcl_str, vsca_str, vfla_str, vro1_sl, vro_sl, vroA_sl, vcl_sl, vsca_sl, vfla_sl, vro1_agg, vro_agg, vroA_agg, vcl_agg, vsca_agg, vfla_agg, List.map_cons, Nat.reduceBEq, vro1_undef, vro_undef, vroA_undef, vcl_undef, vsca_undef, vfla_undef, vro1_fn, vro_fn, vroA_fn, vcl_fn, vsca_fn, vfla_fn, vro1_hsl, vro_hsl, vroA_hsl, vcl_hsl, vsca_hsl, vfla_hsl, look_hit, look_miss, ext_tmp, pk, ex_0, ex_1, ex_2, lo_int, lo_str, lo_bool, lo_map, lo_ptr, lo_agg, lo_sl, lo_hsl, lo_fn, ld_vptr, ld_h, dlh_some, ld_b, dlb_some, st_h, sth_some, st_b, stb_some, onMap_some, bget_nil, bget_cons, bset_nil, bset_cons, List.map_nil, List.take_zero, List.flatMap_nil, List.append_nil, putAt_eq, mk_setH, mk_setB, nv_if, bsl_t, bsl_f, apd_own, nc0, nc1, nc2, nc3, nc4, nc5, wrap_i64, wrap_u8, nil_tmp, nil_int, nil_str, nil_bool, nil_ptr, nil_map, nil_sl, b_add, b_sub, b_mul, b_rem, b_quo, b_eql, b_neq, b_lss, b_leq, b_gtr, b_geq, s_eql, s_neq, s_lss, s_geq, s_add, u_not, m_max, m_min, plain_str, plain_int, o_fn, dcl_some, env_cons, args_nil, args_cons]; try rfl⟩
    · rintro m st ⟨i, B, hi, rfl, hB, rfl⟩
      obtain ⟨g, hb2, hb1⟩ := box1 hB
      by_cases e : i < ws.length
      · have e1 : (i : Int) < ws.length := by omega
        have e2 : (0 : Int) ≤ i := by omega
        have wi : IntKind.i64.wrap ((i : Int) + 1) = ((i + 1 : Nat) : Int) := by rw [wrap_i64 (by omega) (by omega)]; omega
        have hin := hsm _ (List.getElem_mem e)
        have hx := wrD_get e
        obtain ⟨x, hx'⟩ : ∃ x, ws[i] = x := ⟨_, rfl⟩
        rw [hx'] at hin hx
        have hacc : (numB ws.length ++ (ws.take i).flatMap wrB).length ≤ 9 + 300 * ws.length := by
          have h1 := numB_len ws.length
          have h2 := words_len (ws := ws.take i) fun w hw => hsm w (List.mem_of_mem_take hw)
          rw [List.length_take] at h2
          rw [List.length_append]; omega
        have hstep : (numB ws.length ++ (ws.take i).flatMap wrB) ++ (textB x.key ++ valB x.del x.val) = numB ws.length ++ (ws.take (i + 1)).flatMap wrB := by
          rw [List.take_succ_eq_append_getElem e, hx', List.flatMap_append]
          simp [wrB]
        have ht := textB_len x.key
        have hvl := valB_len x.del x.val
        generalize numB ws.length ++ (ws.take i).flatMap wrB = acc at hacc hstep ⊢
        simp only [w_seq, w_region, mk_clean, tS_cons, g_none, hold_app, o_bin, nil_tmp, Bool.false_eq_true, Nat.reduceLT, rho_tmp, Nat.reduceBEq, look_miss, look_hit, b_lss, e1, decide_true, mk_put?_some, dropLk, tS_nil, hold_app2, w_cond, cd_t, w_skip, w_block, o_indexAddr, ix33, e2, List.length_map, Int.toNat_natCast, hx, vcl_agg, o_load, ld_vptr, la32, List.length_cons, List.length_nil, Nat.zero_add, Nat.reduceAdd, Nat.reduceLeDiff, List.take_succ_cons, List.take_zero, List.map_cons, vro1_str, vro1_bool, List.map_nil, lo_agg, al32, nv_if, isO_eq, hb2, hb1, if_false, o_store, take_tmp, takK, st_b, bget_cons, bget_nil, if_true, stb_some, Proofs.Tryz.underlying32, Option.isSome_some, cn32, List.all_cons, vsca_str, vsca_bool, List.all_nil, Bool.and_self, putAt_eq, List.nil_append, List.drop_succ_cons, List.drop_nil, List.append_nil, mk_setB, bset_cons, bset_nil, Pos.inBox, List.filter_nil, true_and]
        refine w_draw [3, 8, 11] (.quiet 0 (.quiet 1 (.quiet 2 (.quiet 4 (.quiet 5 (.quiet 6 (.quiet 7 (.acts [(3, [7, 6, 5, 4, 0], .acts [(8, [0], .quiet 9 (.quiet 10 (.acts [(11, [], .done)])))])])))))))) (by decide) (by kernel_rfl) ?_
        simp only [mk_clean, rp_quiet, rpQ_zero, g_none, hold_app, q_move, Nat.reduceLT, rho_tmp, Nat.reduceBEq, look_miss, look_hit, vroA_str, ex_eq, mk_put, dropLk, rpQ_succ, q_fieldAddr, fl32_0, Nat.add_zero, q_load, ld_b, bget_cons, bget_nil, if_true, dlb_some, List.drop_zero, la9, vro_str, true_and, fl32_1, Nat.zero_add, List.drop_succ_cons, la4, vro_bool, fl32_2, rp_acts, ra_cons, rpA_succ, rpA_zero, o_fn, args_cons, args_nil, mk_H, env_cons, Nat.reduceEqDiff, if_false, dcl_some, List.all_cons, vfla_str, List.all_nil, Bool.and_self, List.map_cons, List.map_nil, ra_nil, and_true]
        refine appText (by omega) ?_
        simp only [hold_app2, mk_called, Pos.isHp, List.filter_nil, mk_put?_some, dropLk, hold_app, rcA_cons, rcW_succ, rcW_zero, g_none, Nat.reduceLT, mk_t, Nat.reduceBEq, look_miss, look_hit, q_load, rho_tmp, ld_b, bget_cons, bget_nil, if_true, dlb_some, List.drop_succ_cons, List.drop_zero, la9, vro_str, and_true, q_fieldAddr, fl32_2, Nat.zero_add, la4, vro_bool, fl32_1, q_move, vroA_str, rcA_nil, slL_cons, slW_succ, slW_zero, slL_nil, mk_unlink, dropLks, rp_acts, ra_cons, rpA_succ, rpA_zero, o_fn, args_cons, args_nil, mk_H, env_cons, Nat.reduceEqDiff, if_false, dcl_some, List.all_cons, vfla_bool, vfla_str, List.all_nil, Bool.and_self, List.map_cons, List.map_nil, true_and, ra_nil]
        refine appVal (by omega) ?_
        simp only [hold_app2, mk_called, Pos.isHp, List.filter_nil, mk_put?_some, dropLk, hold_app, rcA_cons, rcW_zero, g_none, Nat.reduceLT, mk_t, Nat.reduceBEq, look_miss, look_hit, q_move, rho_tmp, vroA_str, rcA_nil, and_true, slL_cons, slW_zero, slL_nil, mk_unlink, dropLks, rp_quiet, rpQ_succ, rpQ_zero, q_bin, s_add, ex_and, ex_eq, mk_put, hstep, rp_acts, ra_cons, rpA_succ, rpA_zero, o_assign, take_tmp, takK, rp_done, w_region, mk_clean, tS_cons, o_bin, nil_int, Bool.false_eq_true, rho_const, constDV, b_add, wi, o_move, move_tmp, movK, vroA_int, tS_nil, mk_forget, List.map_cons, List.map_nil, if_false, true_and, ra_nil]
        refine ⟨by omega, by rw [List.length_append]; omega, _, ?_, i + 1, _, by omega, rfl, .inr ⟨_, _, rfl⟩, rfl⟩
        omega
      · obtain rfl : i = ws.length := by omega
        have e1 : ¬ (ws.length : Int) < ws.length := by omega
        simp only [w_seq, w_region, mk_clean, tS_cons, g_none, hold_app, o_bin, nil_tmp, Bool.false_eq_true, Nat.reduceLT, rho_tmp, Nat.reduceBEq, look_miss, look_hit, b_lss, e1, decide_false, mk_put?_some, dropLk, tS_nil, hold_app2, w_cond, cd_f, w_exit, o_move, move_tmp, movK, vroA_str, o_assign, take_tmp, takK, mk_put, w_ret, ret_one, vfla_str, true_and, if_true, if_false]
        rw [List.take_length]
        exact hK
  · skip
    refine ⟨by simp, rfl, ?_⟩
    unfold b138 Go.Proofs.Tryz.f138
    simp only [Option.getD_some, argSlots, vro_hsl, w_seq, w_region, mk_clean, tS_cons, g_none, hold_app, o_assign, take_const, constDV, mk_put, dropLk, tS_nil, hold_app2, o_move, Nat.reduceLT, move_tmp, movK, Nat.reduceBEq, look_miss, look_hit, vroA_hsl, o_len, rho_tmp, dlh33, mk_put?_some, o_fn, args_cons, args_nil, mk_H, env_cons, Nat.reduceEqDiff, if_false, if_true, dcl_some, List.all_cons, vfla_int, List.all_nil, Bool.and_self, List.map_cons, vro_int, List.map_nil, true_and]
    refine appNum (by omega) ?_
    simp only [hold_app2, mk_called, Pos.isHp, List.filter_nil, mk_put?_some, dropLk, hold_app, tS_cons, g_none, o_assign, Nat.reduceLT, take_tmp, takK, look_hit, vroA_str, mk_put, tS_nil, w_seq, w_region, mk_clean, o_move, move_tmp, movK, Nat.reduceBEq, look_miss, vroA_hsl, o_len, rho_tmp, dlh33, move_const, constDV, vroA_int, w_block]
    refine w_loop [3, 9, 10, 11] (MWd H (.hsl id 3 off ws.length cap) ws) ws.length ?_ ?_
    · exact ⟨0, [], by omega, by omega, .inl rfl, by simp only [o_clo, clo_fn, dcl2_some, hold_app, hold_app2, move_tmp, move_const, take_tmp, take_const, rho_tmp, rho_const, mk_put, mk_put?_some, mk_put?_none, mk_setT, mk_newMap, mk_newFun, mk_forget, vro1_bool, vro_bool, vroA_bool, vcl_bool, vsca_bool, vfla_bool, vro1_int, vro_int, vroA_int, vcl_int, vsca_int, vfla_int, vro1_str, vro_str, vroA_str, vcl_str, vsca_str, vfla_str, vro1_sl, vro_sl, vroA_sl, vcl_sl, vsca_sl, vfla_sl, vro1_agg, vro_agg, vroA_agg, vcl_agg, vsca_agg, vfla_agg, List.map_cons, Nat.reduceBEq, vro1_undef, vro_undef, vroA_undef, vcl_undef, vsca_undef, vfla_undef, vro1_fn, vro_fn, vroA_fn, vcl_fn, vsca_fn, vfla_fn, vro1_hsl, vro_hsl, vroA_hsl, vcl_hsl, vsca_hsl, vfla_hsl, look_hit, look_miss, ext_tmp, pk, ex_0, ex_1, ex_2, lo_int, lo_str, lo_bool, lo_map, lo_ptr, lo_agg, lo_sl, lo_hsl, lo_fn, ld_vptr, ld_h, dlh_some, ld_b, dlb_some, st_h, sth_some, st_b, stb_some, onMap_some, bget_nil, bget_cons, bset_nil, bset_cons, List.map_nil, List.take_zero, List.flatMap_nil, List.append_nil, putAt_eq, mk_setH, mk_setB, nv_if, bsl_t, bsl_f, apd_own, nc0, nc1, nc2, nc3, nc4, nc5, wrap_i64, wrap_u8, nil_tmp, nil_int, nil_str, nil_bool, nil_ptr, nil_map, nil_sl, b_add, b_sub, b_mul, b_rem, b_quo, b_eql, b_neq, b_lss, b_leq, b_gtr, b_geq, s_eql, s_neq, s_lss, s_geq, s_add, u_not, m_max, m_min, plain_str, plain_int, o_fn, dcl_some, env_cons, args_nil, args_cons]; try rfl⟩
    · rintro m st ⟨i, B, hi, rfl, hB, rfl⟩
      obtain ⟨g, hb2, hb1⟩ := box1 hB
      by_cases e : i < ws.length
      · have e1 : (i : Int) < ws.length := by omega
        have e2 : (0 : Int) ≤ i := by omega
        have wi : IntKind.i64.wrap ((i : Int) + 1) = ((i + 1 : Nat) : Int) := by rw [wrap_i64 (by omega) (by omega)]; omega
        have hin := hsm _ (List.getElem_mem e)
        obtain ⟨cs, k1, k2⟩ := hr.2 (by rintro rfl; simp at e)
        obtain ⟨r, d1⟩ := hroww_cells k2 e
        obtain ⟨x, hx'⟩ : ∃ x, ws[i] = x := ⟨_, rfl⟩
        rw [hx'] at hin d1
        have hacc : (numB ws.length ++ (ws.take i).flatMap wrB).length ≤ 9 + 300 * ws.length := by
          have h1 := numB_len ws.length
          have h2 := words_len (ws := ws.take i) fun w hw => hsm w (List.mem_of_mem_take hw)
          rw [List.length_take] at h2
          rw [List.length_append]; omega
        have hstep : (numB ws.length ++ (ws.take i).flatMap wrB) ++ (textB x.key ++ valB x.del x.val) = numB ws.length ++ (ws.take (i + 1)).flatMap wrB := by
          rw [List.take_succ_eq_append_getElem e, hx', List.flatMap_append]
          simp [wrB]
        have ht := textB_len x.key
        have hvl := valB_len x.del x.val
        generalize numB ws.length ++ (ws.take i).flatMap wrB = acc at hacc hstep ⊢
        simp only [w_seq, w_region, mk_clean, tS_cons, g_none, hold_app, o_bin, nil_tmp, Bool.false_eq_true, Nat.reduceLT, rho_tmp, Nat.reduceBEq, look_miss, look_hit, b_lss, e1, decide_true, mk_put?_some, dropLk, tS_nil, hold_app2, w_cond, cd_t, w_skip, w_block, o_indexAddr, ixh33, e2, Int.toNat_natCast, o_load, ld_h, k1, dlh_some, d1, la32, List.length_cons, Nat.reduceLeDiff, List.take_succ_cons, List.take_zero, List.map_cons, vro1_str, vro1_bool, List.map_nil, lo_agg, al32, nv_if, isO_eq, vcl_agg, hb2, hb1, if_false, o_store, take_tmp, takK, st_b, bget_cons, bget_nil, if_true, stb_some, Proofs.Tryz.underlying32, Option.isSome_some, List.length_nil, Nat.zero_add, Nat.reduceAdd, cn32, List.all_cons, vsca_str, vsca_bool, List.all_nil, Bool.and_self, putAt_eq, List.nil_append, List.drop_succ_cons, List.drop_nil, List.append_nil, mk_setB, bset_cons, bset_nil, Pos.inBox, List.filter_nil, true_and]
        refine w_draw [3, 8, 11] (.quiet 0 (.quiet 1 (.quiet 2 (.quiet 4 (.quiet 5 (.quiet 6 (.quiet 7 (.acts [(3, [7, 6, 5, 4, 0], .acts [(8, [0], .quiet 9 (.quiet 10 (.acts [(11, [], .done)])))])])))))))) (by decide) (by kernel_rfl) ?_
        simp only [mk_clean, rp_quiet, rpQ_zero, g_none, hold_app, q_move, Nat.reduceLT, rho_tmp, Nat.reduceBEq, look_miss, look_hit, vroA_str, ex_eq, mk_put, dropLk, rpQ_succ, q_fieldAddr, fl32_0, Nat.add_zero, q_load, ld_b, bget_cons, bget_nil, if_true, dlb_some, List.drop_zero, la9, vro_str, true_and, fl32_1, Nat.zero_add, List.drop_succ_cons, la4, vro_bool, fl32_2, rp_acts, ra_cons, rpA_succ, rpA_zero, o_fn, args_cons, args_nil, mk_H, env_cons, Nat.reduceEqDiff, if_false, dcl_some, List.all_cons, vfla_str, List.all_nil, Bool.and_self, List.map_cons, List.map_nil, ra_nil, and_true]
        refine appText (by omega) ?_
        simp only [hold_app2, mk_called, Pos.isHp, List.filter_nil, mk_put?_some, dropLk, hold_app, rcA_cons, rcW_succ, rcW_zero, g_none, Nat.reduceLT, mk_t, Nat.reduceBEq, look_miss, look_hit, q_load, rho_tmp, ld_b, bget_cons, bget_nil, if_true, dlb_some, List.drop_succ_cons, List.drop_zero, la9, vro_str, and_true, q_fieldAddr, fl32_2, Nat.zero_add, la4, vro_bool, fl32_1, q_move, vroA_str, rcA_nil, slL_cons, slW_succ, slW_zero, slL_nil, mk_unlink, dropLks, rp_acts, ra_cons, rpA_succ, rpA_zero, o_fn, args_cons, args_nil, mk_H, env_cons, Nat.reduceEqDiff, if_false, dcl_some, List.all_cons, vfla_bool, vfla_str, List.all_nil, Bool.and_self, List.map_cons, List.map_nil, true_and, ra_nil]
        refine appVal (by omega) ?_
        simp only [hold_app2, mk_called, Pos.isHp, List.filter_nil, mk_put?_some, dropLk, hold_app, rcA_cons, rcW_zero, g_none, Nat.reduceLT, mk_t, Nat.reduceBEq, look_miss, look_hit, q_move, rho_tmp, vroA_str, rcA_nil, and_true, slL_cons, slW_zero, slL_nil, mk_unlink, dropLks, rp_quiet, rpQ_succ, rpQ_zero, q_bin, s_add, ex_and, ex_eq, mk_put, hstep, rp_acts, ra_cons, rpA_succ, rpA_zero, o_assign, take_tmp, takK, rp_done, w_region, mk_clean, tS_cons, o_bin, nil_int, Bool.false_eq_true, rho_const, constDV, b_add, wi, o_move, move_tmp, movK, vroA_int, tS_nil, mk_forget, List.map_cons, List.map_nil, if_false, true_and, ra_nil]
        refine ⟨by omega, by rw [List.length_append]; omega, _, ?_, i + 1, _, by omega, rfl, .inr ⟨_, _, rfl⟩, rfl⟩
        omega
      · obtain rfl : i = ws.length := by omega
        have e1 : ¬ (ws.length : Int) < ws.length := by omega
        simp only [w_seq, w_region, mk_clean, tS_cons, g_none, hold_app, o_bin, nil_tmp, Bool.false_eq_true, Nat.reduceLT, rho_tmp, Nat.reduceBEq, look_miss, look_hit, b_lss, e1, decide_false, mk_put?_some, dropLk, tS_nil, hold_app2, w_cond, cd_f, w_exit, o_move, move_tmp, movK, vroA_str, o_assign, take_tmp, takK, mk_put, w_ret, ret_one, vfla_str, true_and, if_true, if_false]
        rw [List.take_length]
        exact hK
noncomputable def b77 : Code := (Go.Proofs.Tryz.f77.body).getD .skip
theorem hb77 : Go.Proofs.Tryz.f77.body = some b77 := by kernel_rfl
def entsB (n : Int) (ws : List Wr) : List Ent := ws.map fun w => ⟨w.key, n, w.del, w.val⟩
def SEnts : Spec := fun H args K => ∃ (v : DV) (ws : List Wr) (n : Int), args = [.int .i64 n, v] ∧ RowW H v ws ∧ isBatch ws = true ∧ K H (.sl true 4 (rowD (entsB n ws)))
theorem appEnts {H : List HObj} {K : List HObj → DV → Prop} {v : DV} {n : Int} (ws : List Wr) (h1 : RowW H v ws) (h2 : isBatch ws = true) (h : K H (.sl true 4 (rowD (entsB n ws)))) : app SEnts H [.int .i64 n, v] K := ⟨v, ws, n, rfl, h1, h2, h⟩
theorem batch_le {ws : List Wr} (h : isBatch ws = true) : ws.length ≤ 8 := by
  simp only [isBatch, Bool.and_eq_true, decide_eq_true_eq] at h
  omega
def MEn (H : List HObj) (v : DV) (ws : List Wr) (n : Int) (m : Nat) (st : St) : Prop := ∃ (i : Nat) (B : List (Nat × Nat × List DV)), i ≤ ws.length ∧ m = ws.length - i ∧ (B = [] ∨ ∃ g c, B = [(7, g, c)]) ∧
  st = mk 30 [(0, .int .i64 n), (5, .sl true 4 (rowD (entsB n (ws.take i)))), (11, v), (12, .int .i64 ws.length), (13, .int .i64 i)] B H []
set_option maxHeartbeats 8000000 in
theorem rcEnts {I : Jd pp} (hI : ∀ w e, I.Ok w e) : RC I 77 SEnts := by
  refine rc_of_code (isObj := noO) (Γ := envOf [(71, SBIs)]) (rs := [4]) mixed hI (envOf_rc (by simpa using rcBIs hI)) Go.Proofs.Tryz.func77 (by kernel_rfl) hb77 Go.Proofs.Tryz.results77 Go.Proofs.Tryz.ntmps77 (by decide) ?_
  rintro H args K ⟨v, ws, n, rfl, hv, hbt, hK⟩
  have hle := batch_le hbt
  rcases hv with ⟨own, rfl⟩ | ⟨id, off, cap, rfl, hr⟩
  · skip
    refine ⟨by simp, rfl, ?_⟩
    unfold b77 Go.Proofs.Tryz.f77
    simp only [Option.getD_some, argSlots, vro_int, Nat.zero_add, vro_sl, w_seq, w_region, mk_clean, tS_cons, g_none, hold_app, o_assign, take_const, constDV, Proofs.Tryz.underlying125, cn138, mk_put, dropLk, tS_nil, hold_app2, o_move, Nat.reduceLT, move_tmp, movK, Nat.reduceBEq, look_miss, look_hit, lkGet, o_fn, args_cons, rho_tmp, args_nil, mk_H, env_cons, if_true, dcl_some, List.all_cons, vfla_sl, List.all_nil, Bool.and_self, List.map_cons, List.map_nil, true_and]
    refine appBIs ws (.inl ⟨_, rfl⟩) (by omega) ?_
    simp only [hbt, hold_app2, mk_called, Pos.isHp, List.filter_nil, mk_put?_some, dropLk, hold_app, tS_cons, g_none, o_un, Nat.reduceLT, rho_tmp, look_hit, u_not, Bool.not_true, tS_nil, w_cond, cd_f, w_skip, w_seq, w_region, mk_clean, o_assign, take_const, constDV, Proofs.Tryz.underlying125, cn138, mk_put, o_move, move_tmp, movK, Nat.reduceBEq, look_miss, lkGet, o_len, dl33, List.length_map, move_const, vroA_int, w_block]
    refine w_loop [0, 5, 11, 12, 13] (MEn H (.sl false 3 (ws.map wrD)) ws n) ws.length ?_ ?_
    · exact ⟨0, [], by omega, by omega, .inl rfl, by simp only [o_clo, clo_fn, dcl2_some, hold_app, hold_app2, move_tmp, move_const, take_tmp, take_const, rho_tmp, rho_const, mk_put, mk_put?_some, mk_put?_none, mk_setT, mk_newMap, mk_newFun, mk_forget, vro1_bool, vro_bool, vroA_bool, vcl_bool, vsca_bool, vfla_bool, vro1_int, vro_int, vroA_int, vcl_int, vsca_int, vfla_int, vro1_str, vro_str, vroA_str, vcl_str, vsca_str, vfla_str, vro1_sl, vro_sl, vroA_sl, vcl_sl, vsca_sl, vfla_sl, vro1_agg, vro_agg, vroA_agg, vcl_agg, vsca_agg, vfla_agg, List.map_cons, Nat.reduceBEq, vro1_undef, vro_undef, vroA_undef, vcl_undef, vsca_undef, vfla_undef, vro1_fn, vro_fn, vroA_fn, vcl_fn, vsca_fn, vfla_fn, vro1_hsl, vro_hsl, vroA_hsl, vcl_hsl, vsca_hsl, vfla_hsl, look_hit, look_miss, ext_tmp, pk, ex_0, ex_1, ex_2, lo_int, lo_str, lo_bool, lo_map, lo_ptr, lo_agg, lo_sl, lo_hsl, lo_fn, ld_vptr, ld_h, dlh_some, ld_b, dlb_some, st_h, sth_some, st_b, stb_some, onMap_some, bget_nil, bget_cons, bset_nil, bset_cons, List.map_nil, rowD, entsB, List.take_zero, putAt_eq, mk_setH, mk_setB, nv_if, bsl_t, bsl_f, apd_own, nc0, nc1, nc2, nc3, nc4, nc5, wrap_i64, wrap_u8, nil_tmp, nil_int, nil_str, nil_bool, nil_ptr, nil_map, nil_sl, b_add, b_sub, b_mul, b_rem, b_quo, b_eql, b_neq, b_lss, b_leq, b_gtr, b_geq, s_eql, s_neq, s_lss, s_geq, s_add, u_not, m_max, m_min, plain_str, plain_int, o_fn, dcl_some, env_cons, args_nil, args_cons]; try rfl⟩
    · rintro m st ⟨i, B, hi, rfl, hB, rfl⟩
      obtain ⟨g, hb2, hb1⟩ := box1 hB
      by_cases e : i < ws.length
      · have e1 : (i : Int) < ws.length := by omega
        have e2 : (0 : Int) ≤ i := by omega
        have wi : IntKind.i64.wrap ((i : Int) + 1) = ((i + 1 : Nat) : Int) := by rw [wrap_i64 (by omega) (by omega)]; omega
        have hx := wrD_get e
        obtain ⟨x, hx'⟩ : ∃ x, ws[i] = x := ⟨_, rfl⟩
        rw [hx'] at hx
        have hrl : (rowD (entsB n (ws.take i))).length = i := by simp [rowD, entsB]; omega
        have ht : rowD (entsB n (ws.take i)) ++ [.agg [.str x.key, .int .i64 n, .bool x.del, .str x.val]] = rowD (entsB n (ws.take (i + 1))) := by
          rw [List.take_succ_eq_append_getElem e, hx']; simp [rowD, entsB, Ent.cells]
        simp only [w_seq, w_region, mk_clean, tS_cons, g_none, hold_app, o_bin, nil_tmp, Bool.false_eq_true, Nat.reduceLT, rho_tmp, Nat.reduceBEq, look_miss, look_hit, b_lss, e1, decide_true, mk_put?_some, dropLk, tS_nil, hold_app2, w_cond, cd_t, w_skip, w_block, o_indexAddr, ix33, e2, List.length_map, Int.toNat_natCast, hx, vcl_agg, o_load, ld_vptr, la32, List.length_cons, List.length_nil, Nat.zero_add, Nat.reduceAdd, Nat.reduceLeDiff, List.take_succ_cons, List.take_zero, List.map_cons, vro1_str, vro1_bool, List.map_nil, lo_agg, al32, nv_if, isO_eq, hb2, hb1, if_false, o_store, take_tmp, takK, st_b, bget_cons, bget_nil, if_true, stb_some, Proofs.Tryz.underlying32, Option.isSome_some, cn32, List.all_cons, vsca_str, vsca_bool, List.all_nil, Bool.and_self, putAt_eq, List.nil_append, List.drop_succ_cons, List.drop_nil, List.append_nil, mk_setB, bset_cons, bset_nil, Pos.inBox, List.filter_nil, o_move, move_tmp, movK, Nat.reduceEqDiff, o_fieldAddr, fl32_0, Nat.add_zero, Pos.atSlot, Bool.or_self, ld_b, dlb_some, List.drop_zero, la9, vro_str, lo_str, vroA_int, fl32_1, la4, vro_bool, lo_bool, fl32_2, bd138, mk_put, bd138_0, vroA_str, bdk_eq, vcl_str, List.cons_append, bd138_1, vcl_int, vsca_int, bd138_2, vroA_bool, vcl_bool, bd138_3, bd_nil, bs125_1, vro_agg, vro1_int, bsl_f, beq_self_eq_true, o_append, apo125_125, lkGet, own_slot, part_sl, ownSz_t, un_slot, vroA_sl, ap125_125, apd_own, hrl, ht, o_assign, Bool.or_true, nil_int, rho_const, constDV, b_add, wi, mk_forget, true_and]
        refine ⟨by omega, by omega, _, ?_, i + 1, _, by omega, rfl, .inr ⟨_, _, rfl⟩, rfl⟩
        omega
      · obtain rfl : i = ws.length := by omega
        have e1 : ¬ (ws.length : Int) < ws.length := by omega
        simp only [w_seq, w_region, mk_clean, tS_cons, g_none, hold_app, o_bin, nil_tmp, Bool.false_eq_true, Nat.reduceLT, rho_tmp, Nat.reduceBEq, look_miss, look_hit, b_lss, e1, decide_false, mk_put?_some, dropLk, tS_nil, hold_app2, w_cond, cd_f, w_exit, o_move, move_tmp, movK, Nat.reduceEqDiff, if_false, o_assign, take_tmp, takK, lkGet, if_true, own_slot, part_sl, ownSz_t, un_slot, vroA_sl, mk_put, Pos.atSlot, Bool.or_self, w_ret, ret_one, vfla_sl, true_and]
        rw [List.take_length]
        exact hK
  · skip
    refine ⟨by simp, rfl, ?_⟩
    unfold b77 Go.Proofs.Tryz.f77
    simp only [Option.getD_some, argSlots, vro_int, Nat.zero_add, vro_hsl, w_seq, w_region, mk_clean, tS_cons, g_none, hold_app, o_assign, take_const, constDV, Proofs.Tryz.underlying125, cn138, mk_put, dropLk, tS_nil, hold_app2, o_move, Nat.reduceLT, move_tmp, movK, Nat.reduceBEq, look_miss, look_hit, vroA_hsl, o_fn, args_cons, rho_tmp, args_nil, mk_H, env_cons, if_true, dcl_some, List.all_cons, vfla_hsl, List.all_nil, Bool.and_self, List.map_cons, List.map_nil, true_and]
    refine appBIs ws (.inr ⟨id, off, cap, rfl, hr⟩) (by omega) ?_
    simp only [hbt, hold_app2, mk_called, Pos.isHp, List.filter_nil, mk_put?_some, dropLk, hold_app, tS_cons, g_none, o_un, Nat.reduceLT, rho_tmp, look_hit, u_not, Bool.not_true, tS_nil, w_cond, cd_f, w_skip, w_seq, w_region, mk_clean, o_assign, take_const, constDV, Proofs.Tryz.underlying125, cn138, mk_put, o_move, move_tmp, movK, Nat.reduceBEq, look_miss, vroA_hsl, o_len, dlh33, move_const, vroA_int, w_block]
    refine w_loop [0, 5, 11, 12, 13] (MEn H (.hsl id 3 off ws.length cap) ws n) ws.length ?_ ?_
    · exact ⟨0, [], by omega, by omega, .inl rfl, by simp only [o_clo, clo_fn, dcl2_some, hold_app, hold_app2, move_tmp, move_const, take_tmp, take_const, rho_tmp, rho_const, mk_put, mk_put?_some, mk_put?_none, mk_setT, mk_newMap, mk_newFun, mk_forget, vro1_bool, vro_bool, vroA_bool, vcl_bool, vsca_bool, vfla_bool, vro1_int, vro_int, vroA_int, vcl_int, vsca_int, vfla_int, vro1_str, vro_str, vroA_str, vcl_str, vsca_str, vfla_str, vro1_sl, vro_sl, vroA_sl, vcl_sl, vsca_sl, vfla_sl, vro1_agg, vro_agg, vroA_agg, vcl_agg, vsca_agg, vfla_agg, List.map_cons, Nat.reduceBEq, vro1_undef, vro_undef, vroA_undef, vcl_undef, vsca_undef, vfla_undef, vro1_fn, vro_fn, vroA_fn, vcl_fn, vsca_fn, vfla_fn, vro1_hsl, vro_hsl, vroA_hsl, vcl_hsl, vsca_hsl, vfla_hsl, look_hit, look_miss, ext_tmp, pk, ex_0, ex_1, ex_2, lo_int, lo_str, lo_bool, lo_map, lo_ptr, lo_agg, lo_sl, lo_hsl, lo_fn, ld_vptr, ld_h, dlh_some, ld_b, dlb_some, st_h, sth_some, st_b, stb_some, onMap_some, bget_nil, bget_cons, bset_nil, bset_cons, List.map_nil, rowD, entsB, List.take_zero, putAt_eq, mk_setH, mk_setB, nv_if, bsl_t, bsl_f, apd_own, nc0, nc1, nc2, nc3, nc4, nc5, wrap_i64, wrap_u8, nil_tmp, nil_int, nil_str, nil_bool, nil_ptr, nil_map, nil_sl, b_add, b_sub, b_mul, b_rem, b_quo, b_eql, b_neq, b_lss, b_leq, b_gtr, b_geq, s_eql, s_neq, s_lss, s_geq, s_add, u_not, m_max, m_min, plain_str, plain_int, o_fn, dcl_some, env_cons, args_nil, args_cons]; try rfl⟩
    · rintro m st ⟨i, B, hi, rfl, hB, rfl⟩
      obtain ⟨g, hb2, hb1⟩ := box1 hB
      by_cases e : i < ws.length
      · have e1 : (i : Int) < ws.length := by omega
        have e2 : (0 : Int) ≤ i := by omega
        have wi : IntKind.i64.wrap ((i : Int) + 1) = ((i + 1 : Nat) : Int) := by rw [wrap_i64 (by omega) (by omega)]; omega
        obtain ⟨cs, k1, k2⟩ := hr.2 (by rintro rfl; simp at e)
        obtain ⟨r, d1⟩ := hroww_cells k2 e
        obtain ⟨x, hx'⟩ : ∃ x, ws[i] = x := ⟨_, rfl⟩
        rw [hx'] at d1
        have hrl : (rowD (entsB n (ws.take i))).length = i := by simp [rowD, entsB]; omega
        have ht : rowD (entsB n (ws.take i)) ++ [.agg [.str x.key, .int .i64 n, .bool x.del, .str x.val]] = rowD (entsB n (ws.take (i + 1))) := by
          rw [List.take_succ_eq_append_getElem e, hx']; simp [rowD, entsB, Ent.cells]
        simp only [w_seq, w_region, mk_clean, tS_cons, g_none, hold_app, o_bin, nil_tmp, Bool.false_eq_true, Nat.reduceLT, rho_tmp, Nat.reduceBEq, look_miss, look_hit, b_lss, e1, decide_true, mk_put?_some, dropLk, tS_nil, hold_app2, w_cond, cd_t, w_skip, w_block, o_indexAddr, ixh33, e2, Int.toNat_natCast, o_load, ld_h, k1, dlh_some, d1, la32, List.length_cons, Nat.reduceLeDiff, List.take_succ_cons, List.take_zero, List.map_cons, vro1_str, vro1_bool, List.map_nil, lo_agg, al32, nv_if, isO_eq, vcl_agg, hb2, hb1, if_false, o_store, take_tmp, takK, st_b, bget_cons, bget_nil, if_true, stb_some, Proofs.Tryz.underlying32, Option.isSome_some, List.length_nil, Nat.zero_add, Nat.reduceAdd, cn32, List.all_cons, vsca_str, vsca_bool, List.all_nil, Bool.and_self, putAt_eq, List.nil_append, List.drop_succ_cons, List.drop_nil, List.append_nil, mk_setB, bset_cons, bset_nil, Pos.inBox, List.filter_nil, o_move, move_tmp, movK, Nat.reduceEqDiff, o_fieldAddr, fl32_0, Nat.add_zero, Pos.atSlot, Bool.or_self, ld_b, dlb_some, List.drop_zero, la9, vro_str, lo_str, vroA_int, fl32_1, la4, vro_bool, lo_bool, fl32_2, bd138, mk_put, bd138_0, vroA_str, bdk_eq, vcl_str, List.cons_append, bd138_1, vcl_int, vsca_int, bd138_2, vroA_bool, vcl_bool, bd138_3, bd_nil, bs125_1, vro_agg, vro1_int, bsl_f, beq_self_eq_true, o_append, apo125_125, lkGet, own_slot, part_sl, ownSz_t, un_slot, vroA_sl, ap125_125, apd_own, hrl, ht, o_assign, Bool.or_true, nil_int, rho_const, constDV, b_add, wi, mk_forget, true_and]
        refine ⟨by omega, by omega, _, ?_, i + 1, _, by omega, rfl, .inr ⟨_, _, rfl⟩, rfl⟩
        omega
      · obtain rfl : i = ws.length := by omega
        have e1 : ¬ (ws.length : Int) < ws.length := by omega
        simp only [w_seq, w_region, mk_clean, tS_cons, g_none, hold_app, o_bin, nil_tmp, Bool.false_eq_true, Nat.reduceLT, rho_tmp, Nat.reduceBEq, look_miss, look_hit, b_lss, e1, decide_false, mk_put?_some, dropLk, tS_nil, hold_app2, w_cond, cd_f, w_exit, o_move, move_tmp, movK, Nat.reduceEqDiff, if_false, o_assign, take_tmp, takK, lkGet, if_true, own_slot, part_sl, ownSz_t, un_slot, vroA_sl, mk_put, Pos.atSlot, Bool.or_self, w_ret, ret_one, vfla_sl, true_and]
        rw [List.take_length]
        exact hK
noncomputable def b72 : Code := (Go.Proofs.Tryz.f72.body).getD .skip
theorem hb72 : Go.Proofs.Tryz.f72.body = some b72 := by kernel_rfl
def batchB (n : Nat) (ws : List Wr) : Str := sealB (numB n ++ wordsB ws)
theorem batch_small {ws : List Wr} (h : isBatch ws = true) : SmW ws := by
  refine ⟨by have := batch_le h; omega, ?_⟩
  have h1 : okB [] ws = true := by simp only [isBatch, Bool.and_eq_true] at h; exact h.1
  have : ∀ (a : Str) (l : List Wr), okB a l = true → ∀ w ∈ l, w.key.length ≤ 100 ∧ w.val.length ≤ 100 := by
    intro a l
    induction l generalizing a with
    | nil => simp
    | cons w r ih =>
      intro h2 x hx
      simp only [okB, Bool.and_eq_true] at h2
      rcases List.mem_cons.1 hx with rfl | hx
      · have := h2.1
        simp only [isWr, Bool.and_eq_true, decide_eq_true_eq] at this
        omega
      · exact ih _ h2.2.2 x hx
  exact this _ _ h1
theorem sealB_len (s : Str) : (sealB s).length ≤ s.length + 13 := by
  have := numB_len s.length
  have h4 : (bytes4 (sumF s)).length = 4 := rfl
  simp only [sealB, List.length_append]; omega
theorem batchB_len {n : Nat} {ws : List Wr} (h : isBatch ws = true) : (batchB n ws).length ≤ 2500 := by
  have h1 := sealB_len (numB n ++ wordsB ws)
  have h2 := numB_len n
  have h3 := numB_len ws.length
  have h4 := words_len (batch_small h).2
  have h5 := batch_le h
  simp only [batchB, wordsB, List.length_append] at *
  omega
def SBBytes : Spec := fun H args K => ∃ (v : DV) (ws : List Wr) (n : Nat), args = [.int .i64 n, v] ∧ RowW H v ws ∧ isBatch ws = true ∧ 1 ≤ n ∧ n ≤ 1000000 ∧ ∀ H', Fr [] H H' → K H' (.tup [.str (batchB n ws), .int .i64 0])
theorem appBBytes {H : List HObj} {K : List HObj → DV → Prop} {v : DV} {n : Nat} (ws : List Wr) (h1 : RowW H v ws) (h2 : isBatch ws = true) (h3 : 1 ≤ n) (h4 : n ≤ 1000000) (h : ∀ H', Fr [] H H' → K H' (.tup [.str (batchB n ws), .int .i64 0])) : app SBBytes H [.int .i64 n, v] K := ⟨v, ws, n, rfl, h1, h2, h3, h4, h⟩
set_option maxHeartbeats 8000000 in
theorem rcBBytes {I : Jd pp} (hI : ∀ w e, I.Ok w e) : RC I 72 SBBytes := by
  refine rc_of_code (isObj := noO) (Γ := envOf [(71, SBIs), (137, SNum), (138, SWords), (139, SSeal)]) (rs := [4, 5]) mixed hI (envOf_rc (by simpa using ⟨rcBIs hI, rcNum hI, rcWords hI, rcSeal hI⟩)) Go.Proofs.Tryz.func72 (by kernel_rfl) hb72 Go.Proofs.Tryz.results72 Go.Proofs.Tryz.ntmps72 (by decide) ?_
  rintro H args K ⟨v, ws, n, rfl, hv, hbt, h1, h2, hK⟩
  have hle := batch_le hbt
  have q1 : ¬ (n : Int) < 1 := by omega
  have q2 : ¬ (1000000 : Int) < n := by omega
  have hlen : (numB n ++ wordsB ws).length ≤ 2487 := by
    have h2 := numB_len n
    have h3 := numB_len ws.length
    have h4 := words_len (batch_small hbt).2
    simp only [wordsB, List.length_append] at *
    omega
  rcases hv with ⟨own, rfl⟩ | ⟨id, off, cap, rfl, hr⟩
  · skip
    refine ⟨by simp, rfl, ?_⟩
    unfold b72 Go.Proofs.Tryz.f72
    simp only [Option.getD_some, argSlots, vro_int, Nat.zero_add, vro_sl, w_seq, w_region, mk_clean, tS_cons, g_none, hold_app, o_assign, take_const, constDV, mk_put, dropLk, tS_nil, hold_app2, o_move, Nat.reduceLT, move_tmp, movK, Nat.reduceBEq, look_miss, look_hit, lkGet, o_fn, args_cons, rho_tmp, args_nil, mk_H, env_cons, Nat.reduceEqDiff, if_false, if_true, dcl_some, List.all_cons, vfla_sl, List.all_nil, Bool.and_self, List.map_cons, List.map_nil, true_and]
    refine appBIs ws (.inl ⟨_, rfl⟩) (by omega) ?_
    simp only [hbt, hold_app2, mk_called, Pos.isHp, List.filter_nil, mk_put?_some, dropLk, hold_app, tS_cons, g_none, o_un, Nat.reduceLT, rho_tmp, look_hit, u_not, Bool.not_true, o_move, move_tmp, movK, vroA_bool, g_some, gq_succ, gq_zero, gs1_eq, gs2_ff, mk_setT, Nat.reduceBEq, look_miss, vroA_int, o_bin, nil_int, Bool.false_eq_true, rho_const, constDV, b_lss, q1, decide_false, o_pick, pk, if_false, b_gtr, q2, tS_nil, w_cond, cd_f, w_skip, w_seq, w_region, mk_clean, o_fn, args_cons, args_nil, mk_H, env_cons, Nat.reduceEqDiff, if_true, dcl_some, List.all_cons, vfla_int, List.all_nil, Bool.and_self, List.map_cons, vro_int, List.map_nil, true_and]
    refine appNum (by omega) ?_
    simp only [hold_app2, mk_called, Pos.isHp, List.filter_nil, mk_put?_some, dropLk, hold_app, tS_cons, g_none, o_move, Nat.reduceLT, move_tmp, movK, Nat.reduceBEq, look_miss, look_hit, lkGet, o_fn, args_cons, rho_tmp, args_nil, mk_H, env_cons, Nat.reduceEqDiff, if_false, if_true, dcl_some, List.all_cons, vfla_sl, List.all_nil, Bool.and_self, List.map_cons, vro_sl, List.map_nil, true_and]
    refine appWords ws (.inl ⟨_, rfl⟩) (batch_small hbt) ?_
    simp only [hold_app2, mk_called, Pos.isHp, List.filter_nil, mk_put?_some, dropLk, hold_app, tS_cons, g_none, o_bin, nil_tmp, Bool.false_eq_true, Nat.reduceLT, rho_tmp, Nat.reduceBEq, look_miss, look_hit, s_add, o_assign, take_tmp, takK, vroA_str, mk_put, tS_nil, w_seq, w_region, mk_clean, o_move, move_tmp, movK, o_fn, args_cons, args_nil, mk_H, env_cons, Nat.reduceEqDiff, if_true, if_false, dcl_some, List.all_cons, vfla_str, List.all_nil, Bool.and_self, List.map_cons, vro_str, List.map_nil, true_and]
    refine ⟨by rw [List.length_append] at hlen; omega, ?_⟩
    refine appSeal (by omega) fun H' f => ?_
    simp only [hold_app2, mk_called, Pos.isHp, List.filter_nil, mk_put?_some, dropLk, hold_app, tS_cons, g_none, o_assign, Nat.reduceLT, take_tmp, takK, look_hit, vroA_str, mk_put, take_const, constDV, tS_nil, w_ret, ret_two, Nat.reduceBEq, look_miss, vfla_str, vfla_int, and_true, true_and]
    exact hK H' f
  · skip
    refine ⟨by simp, rfl, ?_⟩
    unfold b72 Go.Proofs.Tryz.f72
    simp only [Option.getD_some, argSlots, vro_int, Nat.zero_add, vro_hsl, w_seq, w_region, mk_clean, tS_cons, g_none, hold_app, o_assign, take_const, constDV, mk_put, dropLk, tS_nil, hold_app2, o_move, Nat.reduceLT, move_tmp, movK, Nat.reduceBEq, look_miss, look_hit, vroA_hsl, o_fn, args_cons, rho_tmp, args_nil, mk_H, env_cons, Nat.reduceEqDiff, if_false, if_true, dcl_some, List.all_cons, vfla_hsl, List.all_nil, Bool.and_self, List.map_cons, List.map_nil, true_and]
    refine appBIs ws (.inr ⟨id, off, cap, rfl, hr⟩) (by omega) ?_
    simp only [hbt, hold_app2, mk_called, Pos.isHp, List.filter_nil, mk_put?_some, dropLk, hold_app, tS_cons, g_none, o_un, Nat.reduceLT, rho_tmp, look_hit, u_not, Bool.not_true, o_move, move_tmp, movK, vroA_bool, g_some, gq_succ, gq_zero, gs1_eq, gs2_ff, mk_setT, Nat.reduceBEq, look_miss, vroA_int, o_bin, nil_int, Bool.false_eq_true, rho_const, constDV, b_lss, q1, decide_false, o_pick, pk, if_false, b_gtr, q2, tS_nil, w_cond, cd_f, w_skip, w_seq, w_region, mk_clean, o_fn, args_cons, args_nil, mk_H, env_cons, Nat.reduceEqDiff, if_true, dcl_some, List.all_cons, vfla_int, List.all_nil, Bool.and_self, List.map_cons, vro_int, List.map_nil, true_and]
    refine appNum (by omega) ?_
    simp only [hold_app2, mk_called, Pos.isHp, List.filter_nil, mk_put?_some, dropLk, hold_app, tS_cons, g_none, o_move, Nat.reduceLT, move_tmp, movK, Nat.reduceBEq, look_miss, look_hit, vroA_hsl, o_fn, args_cons, rho_tmp, args_nil, mk_H, env_cons, Nat.reduceEqDiff, if_false, if_true, dcl_some, List.all_cons, vfla_hsl, List.all_nil, Bool.and_self, List.map_cons, vro_hsl, List.map_nil, true_and]
    refine appWords ws (.inr ⟨id, off, cap, rfl, hr⟩) (batch_small hbt) ?_
    simp only [hold_app2, mk_called, Pos.isHp, List.filter_nil, mk_put?_some, dropLk, hold_app, tS_cons, g_none, o_bin, nil_tmp, Bool.false_eq_true, Nat.reduceLT, rho_tmp, Nat.reduceBEq, look_miss, look_hit, s_add, o_assign, take_tmp, takK, vroA_str, mk_put, tS_nil, w_seq, w_region, mk_clean, o_move, move_tmp, movK, o_fn, args_cons, args_nil, mk_H, env_cons, Nat.reduceEqDiff, if_true, if_false, dcl_some, List.all_cons, vfla_str, List.all_nil, Bool.and_self, List.map_cons, vro_str, List.map_nil, true_and]
    refine ⟨by rw [List.length_append] at hlen; omega, ?_⟩
    refine appSeal (by omega) fun H' f => ?_
    simp only [hold_app2, mk_called, Pos.isHp, List.filter_nil, mk_put?_some, dropLk, hold_app, tS_cons, g_none, o_assign, Nat.reduceLT, take_tmp, takK, look_hit, vroA_str, mk_put, take_const, constDV, tS_nil, w_ret, ret_two, Nat.reduceBEq, look_miss, vfla_str, vfla_int, and_true, true_and]
    exact hK H' f
end Go.Ab.En
