/- A part of the proofs that a law function returns true at every input; it has no condition of its own. -/
import Derived.Test.YtefaplodmbdhlaaOrM
set_option linter.unusedSimpArgs false
set_option linter.unusedVariables false
/- OrN: The order laws: a level's pairs between two keys. -/
namespace Go.Ab.Or
open Go Go.Conc Go.RowKit Go.Ab
set_option maxRecDepth 10000
def inR (fr to k : Str) : Bool := !(Op.bytesLess k fr) && (decide (to = []) || Op.bytesLess k to)
def pairsF (fs : Option Files) (fr to : Str) : List (Str × Str) := match fs with
  | none => []
  | some fs => ((namesF fs).filter (inR fr to)).map fun k => (k, (getF fs k).getD [])
def FOk (fs : Files) : Prop := (fs.map (·.1)).Nodup ∧ fs.length < 100000 ∧ ∀ x ∈ fs, x.1.length ≤ maxLen
theorem strs_at {l : List Str} {i : Nat} (h : i < l.length) : (l.map DV.str).getD i .undef = .str l[i] := by simp [List.getD, h]
theorem gds {o : Option Str} : (Option.map DV.ro (Option.map DV.str o)).getD (.str []) = .str (o.getD []) := by cases o <;> rfl
noncomputable def b25 : Code := (Go.Proofs.Try.f25.body).getD .skip
theorem hb25 : Go.Proofs.Try.f25.body = some b25 := by kernel_rfl
def SPrs : Spec := fun H args K => ∃ n0 sid lv fr to S, args = [.map sid, .int .i64 lv, .str fr, .str to] ∧ StAt n0 H sid S ∧ (∀ fs, filesS S lv = some fs → FOk fs) ∧ ∀ H', Fr H H' [] → K H' (.sl true 2 ((pairsF (filesS S lv) fr to).map prD))
def MPrs (H : List HObj) (sid : Nat) (lv : Int) (fr to : Str) (fs : Files) (m : Nat) (st : St) : Prop := ∃ i : Nat, i ≤ (namesF fs).length ∧ m = (namesF fs).length - i ∧
  st = mk 46 [(0, .map sid), (1, .int .i64 lv), (2, .str fr), (3, .str to), (9, .sl true 2 (((((namesF fs).take i).filter (inR fr to)).map fun k => (k, (getF fs k).getD [])).map prD)), (16, .sl false 1 ((namesF fs).map .str)), (17, .int .i64 (namesF fs).length), (18, .int .i64 i)] [] H []
set_option maxHeartbeats 4000000 in
theorem rcPrs : RC (loneJ pp) 25 SPrs := by
  have hI : ∀ w e, (loneJ pp).Ok w e := fun _ _ => trivial
  refine rc_of_code (isObj := isO) (Γ := envOf [(35, SKeys), (34, SSorted)]) (rs := [8]) mixed hI (envOf_rc (by simpa using ⟨rcKeys, rcSorted⟩)) Go.Proofs.Try.func25 (by kernel_rfl) hb25 Go.Proofs.Try.results25 Go.Proofs.Try.ntmps25 (by decide) ?_
  rintro H args K ⟨n0, sid, lv, fr, to, S, rfl, hS, hok, hK⟩
  cases hid : idS lv S with
  | none =>
    have hf : filesS S lv = none := by simp [filesS, hid]
    refine ⟨by simp, rfl, ?_⟩
    unfold b25 Go.Proofs.Try.f25
    simp only [Option.getD_some, argSlots, vro_map, Nat.zero_add, vro_int, Nat.reduceAdd, vro_str, w_seq, w_region, mk_clean, tS_cons, g_none, hold_app, o_assign, take_const, constDV, Proofs.Try.underlying31, cn35, mk_put, dropLk, tS_nil, hold_app2, w_scope, w_label, o_move, Nat.reduceLT, move_tmp, movK, Nat.reduceBEq, look_miss, look_hit, vroA_map, vroA_int, o_lookup, DV.plain, rho_tmp, lk_h Go.Proofs.Try.underlying49, hS.top, kt3, lf68, true_and, onMap_some, find_top, hid, Option.map_none, Option.getD_none, mk_put?_some, o_fn, args_cons, args_nil, mk_H, env_cons, Nat.reduceEqDiff, if_false, if_true, dcl_some, List.all_cons, vfla_nilmap, List.all_nil, Bool.and_self, List.map_cons, vro_nilmap, List.map_nil]
    refine ⟨_, rfl, .inr rfl, ?_⟩
    simp only [hold_app2, mk_called, Pos.isHp, List.filter_nil, mk_put?_some, dropLk, hold_app, tS_cons, g_none, o_fn, args_cons, Nat.reduceLT, rho_tmp, look_hit, args_nil, mk_H, env_cons, Nat.reduceEqDiff, if_true, if_false, dcl_some, List.all_cons, vfla_fn, List.all_nil, Bool.and_self, List.map_cons, vro_fn, List.map_nil, true_and]
    refine ⟨_, _, rfl, ap_get0, .inl ⟨rfl, ?_⟩⟩
    simp only [hold_app2, mk_called, Pos.isHp, List.filter_nil, mk_put?_some, dropLk, hold_app, tS_cons, g_none, o_len, Nat.reduceLT, rho_tmp, look_hit, dl77, List.length_nil, nc0, o_move, move_const, constDV, vroA_int, tS_nil, w_block]
    refine w_unroll 1 ?_
    simp only [lw_succ, w_seq, w_region, mk_clean, tS_cons, g_none, hold_app, o_bin, nil_tmp, Bool.false_eq_true, Nat.reduceLT, rho_tmp, look_hit, Nat.reduceBEq, look_miss, b_lss, Int.reduceLT, decide_false, mk_put?_some, dropLk, tS_nil, hold_app2, w_cond, cd_f, w_exit, o_move, move_tmp, movK, Nat.reduceEqDiff, if_false, o_assign, take_tmp, takK, lkGet, if_true, own_slot, part_sl, ownSz_t, un_slot, vroA_sl, mk_put, Pos.atSlot, Bool.or_self, w_ret, ret_one, vfla_sl, true_and]
    rw [hf] at hK
    exact hK _ (Fr.app _ _)
  | some y =>
    obtain ⟨id, fs⟩ := y
    have hf : filesS S lv = some fs := by simp [filesS, hid]
    have hfl := hS.files _ (idS_mem hid)
    obtain ⟨o1, o2, o3⟩ := hok fs hf
    refine ⟨by simp, rfl, ?_⟩
    unfold b25 Go.Proofs.Try.f25
    simp only [Option.getD_some, argSlots, vro_map, Nat.zero_add, vro_int, Nat.reduceAdd, vro_str, w_seq, w_region, mk_clean, tS_cons, g_none, hold_app, o_assign, take_const, constDV, Proofs.Try.underlying31, cn35, mk_put, dropLk, tS_nil, hold_app2, w_scope, w_label, o_move, Nat.reduceLT, move_tmp, movK, Nat.reduceBEq, look_miss, look_hit, vroA_map, vroA_int, o_lookup, DV.plain, rho_tmp, lk_h Go.Proofs.Try.underlying49, hS.top, kt3, lf68, true_and, onMap_some, find_top, hid, Option.map_some, mk_put?_some, o_fn, args_cons, args_nil, mk_H, env_cons, Nat.reduceEqDiff, if_false, if_true, dcl_some, List.all_cons, vfla_map, List.all_nil, Bool.and_self, List.map_cons, List.map_nil]
    refine ⟨_, rfl, .inl ⟨_, rfl⟩, ?_⟩
    simp only [hold_app2, mk_called, Pos.isHp, List.filter_nil, mk_put?_some, dropLk, hold_app, tS_cons, g_none, o_fn, args_cons, Nat.reduceLT, rho_tmp, look_hit, args_nil, mk_H, env_cons, Nat.reduceEqDiff, if_true, if_false, dcl_some, List.all_cons, vfla_fn, List.all_nil, Bool.and_self, List.map_cons, vro_fn, List.map_nil, true_and]
    refine ⟨_, _, rfl, ap_get0, .inr ⟨id, fs, rfl, ap_old hfl _, o1, o2, o3, ?_⟩⟩
    simp only [hold_app2, mk_called, Pos.isHp, List.filter_nil, mk_put?_some, dropLk, hold_app, tS_cons, g_none, o_len, Nat.reduceLT, rho_tmp, look_hit, dl77, List.length_map, o_move, move_const, constDV, vroA_int, tS_nil, w_block]
    have hS1 : StAt n0 (H ++ [HObj.cells [DV.map id]]) sid S := ⟨ap_old hS.top _, fun x hx => ap_old (hS.files x hx) _, hS.nd, hS.ns, hS.lo⟩
    have hfl1 := hS1.files _ (idS_mem hid)
    have hK1 := hK (H ++ [HObj.cells [DV.map id]]) (Fr.app _ _)
    rw [hf] at hK1
    generalize H ++ [HObj.cells [DV.map id]] = H1 at hS1 hfl1 hK1 ⊢
    refine w_loop [0, 1, 2, 3, 9, 16, 17, 18] (MPrs H1 sid lv fr to fs) (namesF fs).length ?_ ?_
    · exact ⟨0, by omega, by omega, by simp only [mk_forget, List.map_cons, Nat.reduceBEq, look_miss, look_hit, List.map_nil, List.take_zero, List.filter_nil, nc0]; try rfl⟩
    · rintro m st ⟨i, hi, rfl, rfl⟩
      have hl : (namesF fs).length = fs.length := by simp [namesF]
      by_cases e : i < (namesF fs).length
      · have e1 : (i : Int) < (namesF fs).length := by omega
        have e2 : (0 : Int) ≤ i := by omega
        have wi : IntKind.i64.wrap ((i : Int) + 1) = ((i + 1 : Nat) : Int) := by rw [wrap_i64 (by omega) (by omega)]; omega
        have hx := strs_at e
        have hstep : ∀ b, inR fr to (namesF fs)[i] = b → ((namesF fs).take (i + 1)).filter (inR fr to) = ((namesF fs).take i).filter (inR fr to) ++ (if b = true then [(namesF fs)[i]] else []) := by
          rintro b rfl
          rw [List.take_succ_eq_append_getElem e, List.filter_append]
          congr 1
          by_cases hb : inR fr to (namesF fs)[i] = true <;> simp [hb]
        have hacc : (((namesF fs).take i).filter (inR fr to)).length ≤ i := Nat.le_trans (List.length_filter_le _ _) (by simp; omega)
        generalize (namesF fs)[i] = k at hx hstep
        generalize ((namesF fs).take i).filter (inR fr to) = acc at hstep hacc ⊢
        by_cases c1 : Op.bytesLess k fr = true
        · have hr := hstep false (by simp [inR, c1])
          simp only [w_seq, w_region, mk_clean, tS_cons, g_none, hold_app, o_bin, nil_tmp, Bool.false_eq_true, Nat.reduceLT, rho_tmp, Nat.reduceBEq, look_miss, look_hit, b_lss, e1, decide_true, mk_put?_some, dropLk, tS_nil, hold_app2, w_cond, cd_t, w_skip, w_block, o_indexAddr, ix77, e2, List.length_map, Int.toNat_natCast, hx, vcl_str, o_load, ld_vptr, la9, vro_str, lo_str, o_assign, take_tmp, takK, vroA_str, mk_put, o_move, move_tmp, movK, s_lss, c1, vroA_bool, g_some, gq_succ, gq_zero, gs1_eq, gs2_tf, mk_setT, gs2_tup, o_pick, rho_const, constDV, pk, vroA_tup, List.map_nil, if_true, w_exit, nil_int, b_add, wi, vroA_int, mk_forget, List.map_cons, if_false, reduceCtorEq, Nat.reduceEqDiff, lkGet, own_slot, part_sl, ownSz_t, un_slot, vroA_sl, Pos.atSlot, Bool.or_self, w_ret, ret_one, vfla_sl, true_and]
          refine ⟨_, ?_, i + 1, by omega, rfl, ?_⟩
          · omega
          · rw [hr]; simp
        · have c1' : Op.bytesLess k fr = false := by simpa using c1
          by_cases c2 : to = []
          · have hr := hstep true (by simp [inR, c1', c2])
            subst c2
            simp only [w_seq, w_region, mk_clean, tS_cons, g_none, hold_app, o_bin, nil_tmp, Bool.false_eq_true, Nat.reduceLT, rho_tmp, Nat.reduceBEq, look_miss, look_hit, b_lss, e1, decide_true, mk_put?_some, dropLk, tS_nil, hold_app2, w_cond, cd_t, w_skip, w_block, o_indexAddr, ix77, e2, List.length_map, Int.toNat_natCast, hx, vcl_str, o_load, ld_vptr, la9, vro_str, lo_str, o_assign, take_tmp, takK, vroA_str, mk_put, o_move, move_tmp, movK, s_lss, c1', vroA_bool, g_some, gq_succ, gq_zero, gs1_eq, gs2_ff, mk_setT, nil_str, rho_const, constDV, s_neq, ne_eq, not_true_eq_false, decide_false, gs2_ft, o_pick, pk, vroA_tup, List.map_nil, if_false, cd_f, Nat.reduceEqDiff, Pos.atSlot, Bool.or_self, vroA_map, vroA_int, o_lookup, DV.plain, lk_h Go.Proofs.Try.underlying49, hS1.top, kt3, lf68, true_and, onMap_some, find_top, hid, Option.map_some, vro_map, Option.getD_some, lk_h Go.Proofs.Try.underlying68, hfl1, kt9, lf9, find_enc, gds, bd35, bd35_0, bdk_eq, List.length_cons, List.length_nil, Nat.zero_add, Nat.reduceAdd, Nat.reduceLeDiff, List.all_cons, vsca_str, List.all_nil, Bool.and_self, putAt_eq, List.take_zero, List.nil_append, List.drop_succ_cons, List.drop_zero, List.cons_append, bd35_1, List.take_succ_cons, List.drop_nil, List.append_nil, bd_nil, bs31_1, isO_eq, vro_agg, List.map_cons, vro1_str, bsl_f, vcl_agg, beq_self_eq_true, o_append, apo31_31, lkGet, if_true, own_slot, part_sl, ownSz_t, un_slot, vroA_sl, ap31_31, apd_own, Bool.or_true, nil_int, b_add, wi, mk_forget]
            refine ⟨by omega, by omega, _, ?_, i + 1, by omega, rfl, ?_⟩
            · omega
            · rw [hr]; simp [prD]
          · by_cases c3 : Op.bytesLess k to = true
            · have hr := hstep true (by simp [inR, c1', c3])
              simp only [w_seq, w_region, mk_clean, tS_cons, g_none, hold_app, o_bin, nil_tmp, Bool.false_eq_true, Nat.reduceLT, rho_tmp, Nat.reduceBEq, look_miss, look_hit, b_lss, e1, decide_true, mk_put?_some, dropLk, tS_nil, hold_app2, w_cond, cd_t, w_skip, w_block, o_indexAddr, ix77, e2, List.length_map, Int.toNat_natCast, hx, vcl_str, o_load, ld_vptr, la9, vro_str, lo_str, o_assign, take_tmp, takK, vroA_str, mk_put, o_move, move_tmp, movK, s_lss, c1', vroA_bool, g_some, gq_succ, gq_zero, gs1_eq, gs2_ff, mk_setT, nil_str, rho_const, constDV, s_neq, ne_eq, c2, not_false_eq_true, gs2_tt, s_geq, c3, Bool.not_true, o_pick, pk, if_true, if_false, cd_f, Nat.reduceEqDiff, Pos.atSlot, Bool.or_self, vroA_map, vroA_int, o_lookup, DV.plain, lk_h Go.Proofs.Try.underlying49, hS1.top, kt3, lf68, true_and, onMap_some, find_top, hid, Option.map_some, vro_map, Option.getD_some, lk_h Go.Proofs.Try.underlying68, hfl1, kt9, lf9, find_enc, gds, bd35, bd35_0, bdk_eq, List.length_cons, List.length_nil, Nat.zero_add, Nat.reduceAdd, Nat.reduceLeDiff, List.all_cons, vsca_str, List.all_nil, Bool.and_self, putAt_eq, List.take_zero, List.nil_append, List.drop_succ_cons, List.drop_zero, List.cons_append, bd35_1, List.take_succ_cons, List.drop_nil, List.append_nil, bd_nil, bs31_1, isO_eq, vro_agg, List.map_cons, vro1_str, List.map_nil, bsl_f, vcl_agg, beq_self_eq_true, o_append, apo31_31, lkGet, own_slot, part_sl, ownSz_t, un_slot, vroA_sl, ap31_31, apd_own, Bool.or_true, nil_int, b_add, wi, mk_forget]
              refine ⟨by omega, by omega, _, ?_, i + 1, by omega, rfl, ?_⟩
              · omega
              · rw [hr]; simp [prD]
            · have c3' : Op.bytesLess k to = false := by simpa using c3
              have hr := hstep false (by simp [inR, c1', c3', c2])
              simp only [w_seq, w_region, mk_clean, tS_cons, g_none, hold_app, o_bin, nil_tmp, Bool.false_eq_true, Nat.reduceLT, rho_tmp, Nat.reduceBEq, look_miss, look_hit, b_lss, e1, decide_true, mk_put?_some, dropLk, tS_nil, hold_app2, w_cond, cd_t, w_skip, w_block, o_indexAddr, ix77, e2, List.length_map, Int.toNat_natCast, hx, vcl_str, o_load, ld_vptr, la9, vro_str, lo_str, o_assign, take_tmp, takK, vroA_str, mk_put, o_move, move_tmp, movK, s_lss, c1', vroA_bool, g_some, gq_succ, gq_zero, gs1_eq, gs2_ff, mk_setT, nil_str, rho_const, constDV, s_neq, ne_eq, c2, not_false_eq_true, gs2_tt, s_geq, c3', Bool.not_false, o_pick, pk, if_true, if_false, w_exit, nil_int, b_add, wi, vroA_int, mk_forget, List.map_cons, List.map_nil, reduceCtorEq, Nat.reduceEqDiff, lkGet, own_slot, part_sl, ownSz_t, un_slot, vroA_sl, Pos.atSlot, Bool.or_self, w_ret, ret_one, vfla_sl, true_and]
              refine ⟨_, ?_, i + 1, by omega, rfl, ?_⟩
              · omega
              · rw [hr]; simp
      · have e0 : i = (namesF fs).length := by omega
        subst e0
        simp only [List.take_length, w_seq, w_region, mk_clean, tS_cons, g_none, hold_app, o_bin, nil_tmp, Bool.false_eq_true, Nat.reduceLT, rho_tmp, Nat.reduceBEq, look_miss, look_hit, b_lss, Int.lt_irrefl, decide_false, mk_put?_some, dropLk, tS_nil, hold_app2, w_cond, cd_f, w_exit, o_move, move_tmp, movK, Nat.reduceEqDiff, if_false, o_assign, take_tmp, takK, lkGet, if_true, own_slot, part_sl, ownSz_t, un_slot, vroA_sl, mk_put, Pos.atSlot, Bool.or_self, w_ret, ret_one, vfla_sl, true_and]
        exact hK1
end Go.Ab.Or
