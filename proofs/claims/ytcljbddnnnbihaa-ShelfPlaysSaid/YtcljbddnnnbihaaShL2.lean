/- A part of the proofs that a law function returns true at every input; it has no condition of its own. -/
import Derived.Test.YtcljbddnnnbihaaShN0
set_option linter.unusedSimpArgs false
set_option linter.unusedVariables false
/- ShL2: alike. -/
namespace Go.Ab.Sh
open Go Go.Conc Go.RowKit Go.Ab
set_option maxRecDepth 10000
noncomputable def b29 : Code := (Go.Proofs.Try.f29.body).getD .skip
theorem hb29 : Go.Proofs.Try.f29.body = some b29 := by kernel_rfl
/-- What a shelf and the document's shelf have in common. -/
structure Like (now l : Files) : Prop where
  names : namesF now = l.map (·.1)
  len : now.length = l.length
  used : usedF now = usedF l
  get : ∀ (i : Nat) (x : Str × Str), l[i]? = some x → getF now x.1 = some x.2
  nodup : (now.map (·.1)).Nodup
  short : ∀ x ∈ now, x.1.length ≤ maxLen
def M29 (id rid : Nat) (l : Files) (H : List HObj) (m : Nat) (st : St) : Prop := ∃ i : Nat, i ≤ l.length ∧ m = l.length - i ∧ st = mk 87 [(0, .ptr id 0), (1, .ptr rid 0), (5, .sl false 1 ((l.map (·.1)).map .str)), (6, .int .i64 i)] [] H []
def S29 : Spec := fun H args K => ∃ id k n rid kept now l rkept acts room, args = [.ptr id 0, .ptr rid 0] ∧ ShelfAt H id k n kept now acts room ∧ RefAt H rid l rkept acts room ∧ Like now l ∧ l.length < 100000 ∧ usedF l < 4611686018427387904 ∧ 0 ≤ room ∧ room < 4611686018427387904 ∧ K H (.bool true)
set_option maxHeartbeats 2000000 in
theorem rc29 : RC (loneJ pp) 29 S29 := by
  have hI : ∀ w e, (loneJ pp).Ok w e := fun _ _ => trivial
  refine rc_of_code (isObj := isO) (Γ := envOf [(31, S31), (32, S32), (33, S33), (30, S30), (27, S27), (45, S45), (39, S39)]) (rs := [4]) mixed hI (envOf_rc (by simpa using ⟨rc31, rcs32, rcs33, rcs30, rcs27, rc45 hI, rc39 hI⟩)) Go.Proofs.Try.func29 (by kernel_rfl) hb29 Go.Proofs.Try.results29 Go.Proofs.Try.ntmps29 (by decide) ?_
  rintro H args K ⟨id, k, n, rid, kept, now, l, rkept, acts, room, rfl, hs, hr, hl, h5, h6, h7, h8, hK⟩
  have h1 := hs.1
  have h2 : H[rid]? = some (.cells (refC l rkept acts room)) := hr
  have hu : usedF now < 4611686018427387904 := by rw [hl.used]; exact h6
  have hnl : (namesF now).length = l.length := by rw [hl.names, List.length_map]
  refine ⟨by simp, rfl, ?_⟩
  unfold b29 Go.Proofs.Try.f29
  simp only [List.append_eq, List.cons_append, List.nil_append, Option.getD_some, argSlots, DV.ro, Nat.zero_add, w_seq, w_region, mk_clean, tS_cons, g_none, hold_app, o_assign, take_const, constDV, mk_put, dropLk, tS_nil, hold_app2, o_move, Nat.reduceLT, move_tmp, movK, Nat.reduceBEq, look_miss, look_hit, DV.roA, o_fn, args_cons, rho_tmp, args_nil, mk_H, env_cons, Nat.reduceEqDiff, if_false, if_true, dcl_some, List.all_cons, DV.flat, List.all_nil, Bool.and_self, List.map_cons, List.map_nil, true_and]
  refine app31 hs hl.nodup (by rw [hl.len]; exact h5) hl.short ?_
  rw [hl.names]
  simp only [hold_app2, mk_called, Pos.isHp, List.filter_nil, mk_put?_some, dropLk, hold_app, tS_cons, g_none, o_assign, Nat.reduceLT, take_tmp, takK, look_hit, lkGet, mk_put, tS_nil, w_seq]
  refine w_draw [10, 12, 17, 19, 24] (.quiet 0 (.quiet 1 (.quiet 2 (.quiet 3 (.quiet 4 (.quiet 5 (.quiet 6 (.quiet 7 (.quiet 8 (.quiet 9 (.quiet 11 (.acts [(10, [11], .acts [(12, [], .quiet 13 (.quiet 14 (.quiet 15 (.quiet 16 (.quiet 18 (.acts [(17, [18], .acts [(19, [], .quiet 20 (.quiet 21 (.quiet 22 (.quiet 23 (.quiet 25 (.quiet 26 (.quiet 27 (.quiet 28 (.quiet 29 (.acts [(24, [29, 28, 27, 26, 25], .quiet 30 (.quiet 31 (.done)))]))))))))))])]))))))])])))))))))))) (by decide) (by kernel_rfl) ?_
  simp only [mk_clean, rp_quiet, rpQ_zero, g_none, hold_app, q_move, DV.roA, Nat.reduceLT, rho_tmp, look_hit, DV.ro, ex_eq, mk_put, dropLk, rpQ_succ, q_len, dl45, List.length_map, Nat.reduceBEq, look_miss, q_nilCheck, dnil, q_fieldAddr, fp61_0, Nat.add_zero, q_load, ld_h, h2, refC, dlh_some, List.drop_zero, la58, dl58, q_bin, b_neq, ne_eq, not_true_eq_false, decide_false, g_some, gq_succ, gq_zero, gs1_eq, gs2_ff, mk_setT, rp_acts, ra_cons, rpA_succ, rpA_zero, o_fn, args_cons, args_nil, mk_H, env_cons, Nat.reduceEqDiff, if_false, if_true, dcl_some, List.all_cons, DV.flat, List.all_nil, Bool.and_self, List.map_cons, List.map_nil, true_and, ra_nil, and_true]
  refine app32 hs hu ?_
  simp only [hl.used, hold_app2, mk_called, Pos.isHp, List.filter_nil, mk_put?_some, dropLk, hold_app, rcA_cons, rcW_succ, rcW_zero, g_some, gq_succ, gq_zero, Nat.reduceLT, gs1_eq, Nat.reduceBEq, look_miss, look_hit, gs2_ff, mk_setT, mk_t, q_move, DV.roA, rho_tmp, DV.ro, rcA_nil, and_true, slL_cons, slW_succ, slW_zero, slL_nil, mk_unlink, dropLks, rp_acts, ra_cons, rpA_succ, rpA_zero, o_fn, args_cons, args_nil, mk_H, env_cons, Nat.reduceEqDiff, if_false, if_true, dcl_some, List.all_cons, DV.flat, List.all_nil, Bool.and_self, List.map_cons, List.map_nil, true_and, ra_nil]
  refine app45 hr (by omega) h6 ?_
  simp only [hold_app2, mk_called, Pos.isHp, List.filter_nil, mk_put?_some, dropLk, hold_app, rcA_nil, slL_nil, mk_unlink, dropLks, rp_quiet, rpQ_succ, rpQ_zero, g_some, gq_succ, gq_zero, Nat.reduceLT, gs1_eq, Nat.reduceBEq, look_miss, look_hit, gs2_ff, mk_setT, q_bin, rho_tmp, b_neq, ne_eq, not_true_eq_false, decide_false, ex_eq, mk_put, g_none, q_pick, rho_const, constDV, pk, Bool.false_eq_true, DV.roA, DV.ro, if_false, q_move, rp_acts, ra_cons, rpA_succ, rpA_zero, o_fn, args_cons, args_nil, mk_H, env_cons, Nat.reduceEqDiff, if_true, dcl_some, List.all_cons, DV.flat, List.all_nil, Bool.and_self, List.map_cons, List.map_nil, true_and, ra_nil, and_true]
  refine app33 hs hu h7 h8 ?_
  simp only [hl.used, hold_app2, mk_called, Pos.isHp, List.filter_nil, mk_put?_some, dropLk, hold_app, rcA_cons, rcW_succ, rcW_zero, g_some, gq_succ, gq_zero, Nat.reduceLT, gs1_eq, Nat.reduceBEq, look_miss, look_hit, gs2_ff, mk_setT, mk_t, q_move, DV.roA, rho_tmp, DV.ro, rcA_nil, and_true, slL_cons, slW_succ, slW_zero, slL_nil, mk_unlink, dropLks, rp_acts, ra_cons, rpA_succ, rpA_zero, o_fn, args_cons, args_nil, mk_H, env_cons, Nat.reduceEqDiff, if_true, if_false, dcl_some, List.all_cons, DV.flat, List.all_nil, Bool.and_self, List.map_cons, List.map_nil, true_and, ra_nil]
  refine app39 hr (by omega) h6 h7 h8 ?_
  simp only [hold_app2, mk_called, Pos.isHp, List.filter_nil, mk_put?_some, dropLk, hold_app, rcA_nil, slL_nil, mk_unlink, dropLks, rp_quiet, rpQ_succ, rpQ_zero, g_some, gq_succ, gq_zero, Nat.reduceLT, gs1_eq, Nat.reduceBEq, look_miss, look_hit, gs2_ff, mk_setT, q_bin, rho_tmp, b_neq, ne_eq, not_true_eq_false, decide_false, ex_eq, mk_put, g_none, q_pick, rho_const, constDV, pk, Bool.false_eq_true, DV.roA, DV.ro, if_false, q_move, q_nilCheck, dnil, q_fieldAddr, fp61_2, Nat.zero_add, q_load, ld_h, h2, refC, dlh_some, List.drop_succ_cons, List.drop_zero, la59, q_len, dl59, List.length_map, rp_acts, ra_cons, rpA_succ, rpA_zero, o_fn, args_cons, args_nil, mk_H, env_cons, Nat.reduceEqDiff, if_true, dcl_some, List.all_cons, DV.flat, List.all_nil, Bool.and_self, List.map_cons, List.map_nil, true_and, ra_nil, and_true]
  refine capp30 hs ?_
  simp only [hold_app2, mk_called, Pos.isHp, List.filter_nil, mk_put?_some, dropLk, hold_app, rcA_cons, rcW_succ, rcW_zero, g_some, gq_succ, gq_zero, Nat.reduceLT, gs1_eq, Nat.reduceBEq, look_miss, look_hit, gs2_ff, mk_setT, mk_t, q_len, rho_tmp, dl59, List.length_map, q_load, ld_h, h2, refC, dlh_some, List.drop_succ_cons, List.drop_zero, la59, DV.ro, q_fieldAddr, fp61_2, Nat.zero_add, q_nilCheck, dnil, q_move, DV.roA, rcA_nil, and_true, slL_cons, slW_succ, slW_zero, slL_nil, mk_unlink, dropLks, rp_quiet, rpQ_succ, rpQ_zero, q_bin, b_neq, ne_eq, not_true_eq_false, decide_false, ex_eq, mk_put, g_none, q_pick, rho_const, constDV, pk, Bool.false_eq_true, if_false, rp_done, w_cond, cd_f, w_skip, w_seq, w_region, mk_clean, tS_cons, o_assign, take_const, tS_nil, w_block, true_and]
  refine w_loop [0, 1, 5, 6] (M29 id rid l H) l.length ?_ ?_
  · exact ⟨0, by omega, by omega, by simp only [mk_forget, List.map_cons, Nat.reduceBEq, look_miss, look_hit, List.map_nil, nc0]; try rfl⟩
  · rintro m st ⟨i, hi, rfl, rfl⟩
    by_cases e : i < l.length
    · have e1 : (i : Int) < l.length := by omega
      have e0 : (0 : Int) ≤ i := by omega
      obtain ⟨x, hx⟩ : ∃ x, l[i]? = some x := ⟨_, List.getElem?_eq_getElem e⟩
      have hg := hl.get i x hx
      have hat := strs_at (l := l.map (·.1)) (i := i) (t := x.1) (by rw [List.getElem?_map, hx]; rfl)
      have hat2 : (l.map fileD).getD i .undef = .agg [.str x.1, .str x.2] := by simp [List.getD, hx, fileD]
      have wi : IntKind.i64.wrap ((i : Int) + 1) = ((i + 1 : Nat) : Int) := by rw [wrap_i64 (by omega) (by omega)]; omega
      simp only [w_seq, w_region, mk_clean, tS_cons, g_none, hold_app, o_move, Nat.reduceLT, move_tmp, movK, Nat.reduceBEq, look_miss, look_hit, DV.roA, DV.ro, dropLk, lkGet, o_len, rho_tmp, dl45, List.length_map, mk_put?_some, o_bin, nil_tmp, Bool.false_eq_true, b_lss, e1, decide_true, tS_nil, hold_app2, w_cond, cd_t, w_skip, w_block, o_indexAddr, ix45, e0, DV.cells, Int.toNat_natCast, hat, o_load, ld_vptr, la9, lo_str, o_fn, args_cons, args_nil, mk_H, env_cons, Nat.reduceEqDiff, if_false, if_true, dcl_some, List.all_cons, DV.flat, List.all_nil, Bool.and_self, List.map_cons, List.map_nil, true_and]
      refine capp27v x.2 0 hs (by rw [hg]; rfl) (by rw [hg]; rfl) ?_
      simp only [hold_app2, mk_called, Pos.isHp, List.filter_nil, mk_put?_some, dropLk, hold_app, tS_cons, g_none, o_move, Nat.reduceLT, move_tmp, movK, look_hit, DV.roA, List.map_cons, DV.ro, List.map_nil, o_extract, rho_tmp, ex_0, ext_tmp, extK, Nat.reduceBEq, look_miss, ex_1, o_assign, take_tmp, takK, mk_put, tS_nil, w_seq]
      refine w_draw [] (.quiet 0 (.quiet 1 (.quiet 2 (.quiet 3 (.quiet 4 (.quiet 5 (.quiet 6 (.quiet 7 (.quiet 8 (.quiet 9 (.quiet 10 (.quiet 11 (.quiet 12 (.quiet 13 (.quiet 14 (.quiet 15 (.quiet 16 (.quiet 17 (.quiet 18 (.quiet 19 (.quiet 20 (.quiet 21 (.quiet 22 (.quiet 23 (.quiet 24 (.quiet 25 (.quiet 26 (.quiet 27 (.quiet 28 (.done)))))))))))))))))))))))))))))) (by decide) (by kernel_rfl) ?_
      simp only [mk_clean, rp_quiet, rpQ_zero, g_none, hold_app, q_move, DV.roA, Nat.reduceLT, rho_tmp, Nat.reduceBEq, look_miss, look_hit, DV.ro, ex_eq, mk_put, dropLk, rpQ_succ, q_indexAddr, ix45, e0, List.length_map, e1, DV.cells, Int.toNat_natCast, hat, true_and, q_load, ld_vptr, la9, q_nilCheck, dnil, q_fieldAddr, fp61_0, Nat.add_zero, ld_h, h2, refC, dlh_some, List.drop_zero, la58, ix58, hat2, fv75_0, q_bin, s_neq, ne_eq, not_true_eq_false, decide_false, g_some, gq_succ, gq_zero, gs1_eq, gs2_ff, mk_setT, fv75_1, List.drop_succ_cons, q_pick, rho_const, constDV, pk, Bool.false_eq_true, if_false, b_neq, rp_done, hold_app2, w_cond, cd_f, w_skip, w_region, tS_cons, o_move, move_tmp, movK, o_bin, nil_int, b_add, wi, mk_put?_some, o_assign, take_tmp, takK, tS_nil, mk_forget, List.map_cons, List.map_nil]
      exact ⟨l.length - (i + 1), by omega, i + 1, by omega, rfl, rfl⟩
    · have e1 : ¬ (i : Int) < l.length := by omega
      simp only [w_seq, w_region, mk_clean, tS_cons, g_none, hold_app, o_move, Nat.reduceLT, move_tmp, movK, Nat.reduceBEq, look_miss, look_hit, DV.roA, DV.ro, dropLk, lkGet, o_len, rho_tmp, dl45, List.length_map, mk_put?_some, o_bin, nil_tmp, Bool.false_eq_true, b_lss, e1, decide_false, tS_nil, hold_app2, w_cond, cd_f, w_exit, o_assign, take_const, constDV, mk_put, w_ret, ret_one, DV.flat, true_and, if_true, if_false]
      exact hK
end Go.Ab.Sh
