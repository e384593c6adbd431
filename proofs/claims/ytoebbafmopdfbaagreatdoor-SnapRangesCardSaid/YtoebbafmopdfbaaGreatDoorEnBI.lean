/- A part of the proofs that a law function returns true at every input; it has no condition of its own. -/
import Derived.Test.YtoebbafmopdfbaaGreatDoorEnBH
set_option linter.unusedSimpArgs false
set_option linter.unusedVariables false
/- EnBI: The engine's laws: SnapRanges. -/
namespace Go.Ab.En
open Go Go.Conc Go.RowKit Go.Ab
set_option maxRecDepth 10000
theorem ex_tr {k : List UInt8} : (∃ x, some k = some x ∧ DV.str k = DV.str x) = True := by simp
theorem ex_str {k : List UInt8} {F : DV → Prop} : ex (fun dv => ∃ x, some k = some x ∧ dv = DV.str x) F = F (.str k) := by simp [ex]
theorem key_of {a : Int} (h0 : 0 ≤ a) (_h1 : a < 256) : ∃ i : Fin 10, bytesOf [DV.int .u8 (IntKind.u8.wrap (97 + a.tmod 10))] = some (keyC i) := by
  have h2 : a.tmod 10 = a % 10 := Int.tmod_eq_emod_of_nonneg h0
  refine ⟨⟨(a % 10).toNat, by omega⟩, ?_⟩
  rw [h2, wrap_u8 (by omega) (by omega)]
  have h3 : (97 + a % 10).toNat = 97 + (a % 10).toNat := by omega
  simp [bytesOf, keyC, h3]
noncomputable def b3 : Code := (Go.Proofs.Tryz.f3.body).getD .skip
theorem hb3 : Go.Proofs.Tryz.f3.body = some b3 := by kernel_rfl
/-- Several orders of one row of steps: what lies in the slots that are read behind it is the same. -/
theorem cap {A R : Prop} (h : A) (g : A → R) : R := g h
theorem ranges_batch : ∀ (z : Fin 10) (del same : Bool), isBatch (neatW [wrC (keyC z) del same]) = true := by decide +kernel
def KT : List HObj → DV → Prop := fun _ dv => dv = .bool true
set_option maxHeartbeats 8000000 in
theorem law3 {N0 : Nat} {w0 : World} {d : Nat} {G : Gh} {w : World} {vs : Array Value} (a b c : Int) (del same : Bool) (ha : 0 ≤ a) (ha2 : a < 256) (hb : 0 ≤ b) (hb2 : b < 256) (hc : 0 ≤ c) (hc2 : c < 256) (hW : WRel N0 w0 G w []) (hF : Fits G w [.int .u8 a, .int .u8 b, .int .u8 c, .bool del, .bool same] vs) :
    Calls pp 3 vs w fun e w' => ∃ v, e = .returned v ∧ Back N0 w0 d G w KT v w' := by
  refine calls_of_code (isObj := noO) (Γ := envOf [(15, SKn), (17, S17), (16, SMade), (18, SDo), (19, SOf), (21, SSnChg), (20, SSnMov)]) (rs := [10]) mixed (envOf_rc (by simpa using ⟨rcKn, L_new, L_open, L_do, L_of, L_schg, L_smov⟩)) Go.Proofs.Tryz.func3 hb3 Go.Proofs.Tryz.results3 Go.Proofs.Tryz.ntmps3 (by decide) (args := [.int .u8 a, .int .u8 b, .int .u8 c, .bool del, .bool same]) (by simp) rfl ?_ hW hF
  unfold b3 Go.Proofs.Tryz.f3
  simp only [List.append_eq, List.cons_append, List.nil_append, Option.getD_some, argSlots, vro_int, Nat.zero_add, Nat.reduceAdd, vro_bool, w_seq, w_region, mk_clean, tS_cons, g_none, hold_app, o_assign, take_const, constDV, mk_put, dropLk, tS_nil, hold_app2, o_fn, args_nil, mk_H, env_cons, Nat.reduceEqDiff, if_false, if_true, dcl_some, List.all_nil, List.map_nil, true_and]
  refine ⟨rfl, fun H0 => ?_⟩
  simp only [hold_app2, mk_called, Pos.isHp, List.filter_nil, mk_put?_some, dropLk, hold_app, tS_cons, g_none, o_un, Nat.reduceLT, rho_tmp, look_hit, u_not, Bool.not_true, tS_nil, w_cond, cd_f, w_skip, w_seq, w_region, mk_clean, o_fn, args_cons, rho_const, constDV, args_nil, mk_H, env_cons, Nat.reduceEqDiff, if_false, if_true, dcl_some, List.all_cons, vfla_int, List.all_nil, Bool.and_self, List.map_cons, vro_int, List.map_nil, true_and]
  refine capp17 fun H1 f1 l1 s1 => ?_
  simp only [hold_app2, mk_called, Pos.isHp, List.filter_nil, mk_put?_some, dropLk, hold_app, tS_cons, g_none, o_fn, args_cons, Nat.reduceLT, rho_tmp, look_hit, args_nil, mk_H, env_cons, Nat.reduceEqDiff, if_false, if_true, dcl_some, List.all_cons, vfla_ptr, List.all_nil, Bool.and_self, List.map_cons, vro_ptr, List.map_nil, true_and]
  refine appMadeX s1 (by decide) fun H2 E f2 a2 g2 es2 hd2 => ?_
  obtain ⟨x, hx⟩ : ∃ x, E.x = x := ⟨_, rfl⟩
  simp only [hx, hold_app2, mk_called, Pos.isHp, List.filter_nil, mk_put?_some, dropLk, hold_app, tS_cons, g_none, o_move, Nat.reduceLT, move_tmp, movK, look_hit, vroA_tup, List.map_cons, vro_ptr, vro_int, List.map_nil, o_extract, rho_tmp, ex_0, ext_tmp, extK, Nat.reduceBEq, look_miss, ex_1, o_assign, take_tmp, takK, vroA_ptr, mk_put, vroA_int, tS_nil, w_seq, w_region, mk_clean, o_bin, nil_int, Bool.false_eq_true, rho_const, constDV, b_neq, ne_eq, not_true_eq_false, decide_false, vroA_bool, g_some, gq_succ, gq_zero, gs1_eq, gs2_ff, mk_setT, nil_ptr, p_eql Go.Proofs.Tryz.underlying23, o_pick, pk, if_false, w_cond, cd_f, w_skip, bd32, bd32_0, take_const, bdk_eq, vcl_str, List.length_cons, List.length_nil, Nat.zero_add, Nat.reduceAdd, Nat.reduceLeDiff, List.all_cons, vsca_str, List.all_nil, Bool.and_self, putAt_eq, List.take_zero, List.nil_append, List.drop_succ_cons, List.drop_zero, List.cons_append, bd32_2, List.take_succ_cons, List.drop_nil, List.append_nil, bd_nil, bs33_3, isO_eq, vro_agg, vro1_str, vro1_bool, bsl_f, vcl_agg, beq_self_eq_true, vsca_bool, o_fn, args_cons, args_nil, mk_H, env_cons, Nat.reduceEqDiff, if_true, dcl_some, vfla_ptr, vfla_sl, vfla_bool, vro_sl, vro_bool, true_and]
  refine appDoX ws0 hx a2 g2 (by omega) (.inl ⟨_, rfl⟩) (by decide) (by decide +kernel) fun H3 E3 f3 hx3 a3 g3 es3 hd3 al3 => ?_
  rw [es2, show neatW ws0 = ws0 by decide +kernel] at es3
  rw [hd2] at hd3
  simp only [Nat.zero_add, nc1, hold_app2, mk_called, Pos.isHp, List.filter_nil, mk_put?_some, dropLk, hold_app, tS_nil, w_seq, w_region, mk_clean, tS_cons, g_none, o_move, Nat.reduceLT, move_tmp, movK, Nat.reduceBEq, look_miss, look_hit, vroA_ptr, o_fn, args_cons, rho_tmp, args_nil, mk_H, env_cons, Nat.reduceEqDiff, if_false, if_true, dcl_some, List.all_cons, vfla_ptr, List.all_nil, Bool.and_self, List.map_cons, vro_ptr, List.map_nil, true_and]
  refine appOfX hx3 a3 g3 hd3 (by decide) (by decide) fun H4 E4 s f4 hx4 a4 g4 es4 hd4 al4 sn4 ls4 hs4 => ?_
  simp only [hold_app2, mk_called, Pos.isHp, List.filter_nil, mk_put?_some, dropLk, hold_app, tS_cons, g_none, o_assign, Nat.reduceLT, take_tmp, takK, look_hit, vroA_ptr, mk_put, tS_nil, w_seq]
  refine w_draw [3, 8, 13, 15, 16, 17] (.quiet 0 (.quiet 1 (.quiet 2 (.quiet 5 (.quiet 6 (.quiet 7 (.quiet 10 (.quiet 11 (.quiet 12 (.acts [(3, [12, 11, 10, 7, 6, 5], .quiet 4 (.acts [(8, [4, 12, 11, 10, 2, 1, 0], .quiet 9 (.acts [(13, [9, 4, 7, 6, 5, 2, 1, 0], .quiet 14 (.acts [(15, [14, 9, 12, 11, 10, 7, 6, 5], .acts [(16, [14, 12, 11, 10], .acts [(17, [], .done)])])])), (15, [9, 12, 11, 10, 7, 6, 5], .acts [(13, [9, 4, 7, 6, 5, 2, 1, 0], .quiet 14 (.acts [(16, [14, 12, 11, 10], .acts [(17, [], .done)])])), (16, [12, 11, 10], .acts [(13, [9, 4, 7, 6, 5, 2, 1, 0], .quiet 14 (.acts [(17, [], .done)]))])])])), (13, [4, 7, 6, 5, 2, 1, 0], .quiet 14 (.acts [(8, [14, 4, 12, 11, 10, 2, 1, 0], .quiet 9 (.acts [(15, [9, 14, 12, 11, 10, 7, 6, 5], .acts [(16, [14, 12, 11, 10], .acts [(17, [], .done)])])])), (15, [14, 12, 11, 10, 7, 6, 5], .acts [(8, [14, 4, 12, 11, 10, 2, 1, 0], .quiet 9 (.acts [(16, [14, 12, 11, 10], .acts [(17, [], .done)])]))])])), (15, [12, 11, 10, 7, 6, 5], .acts [(8, [4, 12, 11, 10, 2, 1, 0], .quiet 9 (.acts [(13, [9, 4, 7, 6, 5, 2, 1, 0], .quiet 14 (.acts [(16, [14, 12, 11, 10], .acts [(17, [], .done)])])), (16, [12, 11, 10], .acts [(13, [9, 4, 7, 6, 5, 2, 1, 0], .quiet 14 (.acts [(17, [], .done)]))])])), (13, [4, 7, 6, 5, 2, 1, 0], .quiet 14 (.acts [(8, [14, 4, 12, 11, 10, 2, 1, 0], .quiet 9 (.acts [(16, [14, 12, 11, 10], .acts [(17, [], .done)])]))]))])])), (8, [12, 11, 10, 2, 1, 0], .quiet 9 (.acts [(3, [9, 12, 11, 10, 7, 6, 5], .quiet 4 (.acts [(13, [4, 9, 7, 6, 5, 2, 1, 0], .quiet 14 (.acts [(15, [14, 9, 12, 11, 10, 7, 6, 5], .acts [(16, [14, 12, 11, 10], .acts [(17, [], .done)])])])), (15, [9, 12, 11, 10, 7, 6, 5], .acts [(13, [4, 9, 7, 6, 5, 2, 1, 0], .quiet 14 (.acts [(16, [14, 12, 11, 10], .acts [(17, [], .done)])])), (16, [12, 11, 10], .acts [(13, [4, 9, 7, 6, 5, 2, 1, 0], .quiet 14 (.acts [(17, [], .done)]))])])])), (13, [9, 7, 6, 5, 2, 1, 0], .quiet 14 (.acts [(3, [14, 9, 12, 11, 10, 7, 6, 5], .quiet 4 (.acts [(15, [14, 9, 12, 11, 10, 7, 6, 5], .acts [(16, [14, 12, 11, 10], .acts [(17, [], .done)])])]))]))])), (13, [7, 6, 5, 2, 1, 0], .quiet 14 (.acts [(3, [14, 12, 11, 10, 7, 6, 5], .quiet 4 (.acts [(8, [4, 14, 12, 11, 10, 2, 1, 0], .quiet 9 (.acts [(15, [9, 14, 12, 11, 10, 7, 6, 5], .acts [(16, [14, 12, 11, 10], .acts [(17, [], .done)])])])), (15, [14, 12, 11, 10, 7, 6, 5], .acts [(8, [4, 14, 12, 11, 10, 2, 1, 0], .quiet 9 (.acts [(16, [14, 12, 11, 10], .acts [(17, [], .done)])]))])])), (8, [14, 12, 11, 10, 2, 1, 0], .quiet 9 (.acts [(3, [9, 14, 12, 11, 10, 7, 6, 5], .quiet 4 (.acts [(15, [9, 14, 12, 11, 10, 7, 6, 5], .acts [(16, [14, 12, 11, 10], .acts [(17, [], .done)])])]))]))]))])))))))))) (by decide) (by kernel_rfl) ?_
  obtain ⟨i, hi⟩ := key_of ha ha2
  obtain ⟨j, hj⟩ := key_of hb hb2
  obtain ⟨z, hz⟩ := key_of hc hc2
  simp only [mk_clean, rp_quiet, rpQ_zero, g_none, hold_app, q_move, Nat.reduceLT, rho_tmp, Nat.reduceBEq, look_miss, look_hit, vroA_int, ex_eq, mk_put, dropLk, rpQ_succ, q_bin, rho_const, constDV, b_rem, ne_eq, Int.reduceEq, not_false_eq_true, true_and, b_add, rp_acts, ra_cons, rpA_succ, rpA_zero, bs36_1, isO_eq, vro_int, bsl_f, List.all_cons, vcl_int, List.length_cons, List.length_nil, Nat.zero_add, beq_self_eq_true, vsca_int, List.all_nil, Bool.and_self, rcA_cons, rcW_succ, rcW_zero, mk_t, and_self, rcA_nil, slL_cons, slW_succ, slW_zero, slL_nil, mk_unlink, dropLks, q_conv, cv36_9, hi, ex_str, ex_tr, hj, hz, o_assign, take_tmp, takK, vroA_str, rp_done, hold_app2, ra_nil, and_true]
  obtain ⟨lo, hlo⟩ : ∃ lo, keyC i = lo := ⟨_, rfl⟩
  obtain ⟨hi', hhi⟩ : ∃ k, keyC j = k := ⟨_, rfl⟩
  simp only [hlo, hhi] at hi hj ⊢
  refine' cap (A := ∀ l : List (Nat × DV), (look 3 l = .bool del ∧ look 4 l = .bool same ∧ look 11 l = .ptr x 0 ∧ look 13 l = .ptr s 0 ∧ look 14 l = .str lo ∧ look 15 l = .str hi' ∧ look 16 l = .str (keyC z)) → dwp pp noO _ _ _ (mk 153 l [] H4 [])) ?h ?g
  case g =>
    intro key
    repeat' with_reducible apply And.intro
    all_goals
      with_reducible refine key _ ?_
      exact ⟨rfl, rfl, rfl, rfl, rfl, rfl, rfl⟩
  rintro l ⟨k3, k4, k11, k13, k14, k15, k16⟩
  have hs4' : s ∉ E4.all := fun h => by rw [al4] at h; have := a3.allLt s h; omega
  obtain ⟨k, hk⟩ : ∃ k, keyC z = k := ⟨_, rfl⟩
  rw [hk] at k16
  have hbat := ranges_batch z del same
  rw [hk] at hbat
  have heq : ∀ (E5 : EngS), E5.es = (entsB ((0 + 1 + 1 : Nat) : Int) (neatW [wrC k del same])).foldl putE E4.es → E5.es = es1 k del same := fun E5 h => by rw [h, es4, es3]; rfl
  have d1 : decide (([102] : List UInt8) = [99]) = false := by decide
  have d2 : decide (([104] : List UInt8) = [99]) = false := by decide
  have d3 : decide (([104] : List UInt8) = [102]) = false := by decide
  cases del
  · cases same
    · simp only [w_seq, w_region, mk_clean, tS_cons, g_none, hold_app, o_move, Nat.reduceLT, move_tmp, movK, k16, vroA_str, dropLk, Nat.reduceBEq, look_miss, k3, vroA_bool, bd32, mk_put, bd32_0, take_tmp, takK, look_hit, bdk_eq, vcl_str, List.length_cons, List.length_nil, Nat.zero_add, Nat.reduceAdd, Nat.reduceLeDiff, List.all_cons, vsca_str, List.all_nil, Bool.and_self, putAt_eq, List.take_zero, List.nil_append, List.drop_succ_cons, List.drop_zero, List.cons_append, hold_app2, bd32_1, vcl_bool, vsca_bool, List.take_succ_cons, bd_nil, al32, nv_if, isO_eq, Bool.false_eq_true, vcl_agg, bgen_eq, bget_nil, bset_nil, if_false, o_store, List.map_cons, vro1_str, vro1_bool, List.map_nil, rho_tmp, st_b, bget_cons, if_true, stb_some, Proofs.Tryz.underlying32, Option.isSome_some, cn32, List.drop_nil, List.append_nil, mk_setB, bset_cons, Pos.inBox, List.filter_nil, tS_nil, o_un, u_not, Bool.not_false, mk_put?_some, w_cond, cd_t, o_fieldAddr, fl32_2, take_const, constDV, Proofs.Tryz.underlying9, cn9, k4, cd_f, w_skip, k11, vroA_ptr, o_load, ld_b, dlb_some, la32, lo_agg, bs33_1, vro_agg, bsl_f, beq_self_eq_true, o_fn, args_cons, rho_const, args_nil, mk_H, env_cons, Nat.reduceEqDiff, dcl_some, vfla_ptr, vfla_sl, vfla_bool, vro_ptr, vro_sl, vro_bool, true_and]
      refine appDoX [wrC k false false] hx4 a4 g4 (by omega) (.inl ⟨_, rfl⟩) (by simp) hbat fun H5 E5 f5 hx5 a5 g5 es5 hd5 al5 => ?_
      replace es5 := heq E5 es5
      simp only [Nat.zero_add, Nat.reduceAdd, nc2, hold_app2, mk_called, Pos.isHp, List.filter_nil, mk_put?_some, dropLk, hold_app, tS_nil]
      have sn5 := sn4.fr f5 hs4'
      refine' cap (A := ∀ (l : List (Nat × DV)) (B : List (Nat × Nat × List DV)), (look 11 l = .ptr x 0 ∧ look 13 l = .ptr s 0 ∧ look 14 l = .str lo ∧ look 15 l = .str hi' ∧ look 16 l = .str k ∧ look 19 l = .bool (chgC k false false)) → dwp pp noO _ _ _ (mk 153 l B H5 [])) ?h ?g
      case g =>
        intro key
        by_cases c1 : k = [99]
        · rw [w_seq]
          simp only [c1, w_region, mk_clean, tS_cons, g_none, hold_app, o_move, Nat.reduceLT, move_tmp, movK, Nat.reduceBEq, look_miss, k16, vroA_str, dropLk, o_bin, nil_str, Bool.false_eq_true, rho_tmp, look_hit, rho_const, constDV, s_eql, decide_true, mk_put?_some, vroA_bool, g_some, gq_succ, gq_zero, gs1_eq, gs2_tf, mk_setT, o_pick, pk, vroA_tup, List.map_nil, if_true, o_assign, take_tmp, takK, mk_put, tS_nil, hold_app2, if_false]
          rw [w_seq]
          simp only [w_region, mk_clean, tS_cons, g_none, hold_app, o_move, Nat.reduceLT, move_tmp, movK, Nat.reduceBEq, look_miss, k3, vroA_bool, dropLk, look_hit, g_some, gq_succ, gq_zero, gs1_eq, gs2_ft, mk_setT, mk_put?_some, o_pick, rho_tmp, rho_const, constDV, pk, Bool.false_eq_true, vroA_tup, List.map_nil, if_false, gs2_ff, o_un, u_not, Bool.not_false, gs2_tt, Bool.not_true, k4, if_true, o_assign, take_tmp, takK, mk_put, tS_nil, hold_app2]
          with_reducible refine key _ _ ?_
          exact ⟨k11, k13, k14, k15, k16, (by first | (rw [show chgC k false false = true by simp [chgC, thereC, c1]]; rfl) | (rw [show chgC k false false = false by simp [chgC, thereC, c1]]; rfl))⟩
        by_cases c2 : k = [102]
        · rw [w_seq]
          simp only [c2, w_region, mk_clean, tS_cons, g_none, hold_app, o_move, Nat.reduceLT, move_tmp, movK, Nat.reduceBEq, look_miss, k16, vroA_str, dropLk, o_bin, nil_str, Bool.false_eq_true, rho_tmp, look_hit, rho_const, constDV, s_eql, d1, mk_put?_some, vroA_bool, g_some, gq_succ, gq_zero, gs1_eq, gs2_ff, mk_setT, decide_true, o_pick, pk, if_false, gs2_tf, vroA_tup, List.map_nil, if_true, o_assign, take_tmp, takK, mk_put, tS_nil, hold_app2]
          rw [w_seq]
          simp only [w_region, mk_clean, tS_cons, g_none, hold_app, o_move, Nat.reduceLT, move_tmp, movK, Nat.reduceBEq, look_miss, k3, vroA_bool, dropLk, look_hit, g_some, gq_succ, gq_zero, gs1_eq, gs2_ft, mk_setT, mk_put?_some, o_pick, rho_tmp, rho_const, constDV, pk, Bool.false_eq_true, vroA_tup, List.map_nil, if_false, gs2_ff, o_un, u_not, Bool.not_false, gs2_tt, Bool.not_true, k4, if_true, o_assign, take_tmp, takK, mk_put, tS_nil, hold_app2]
          with_reducible refine key _ _ ?_
          exact ⟨k11, k13, k14, k15, k16, (by first | (rw [show chgC k false false = true by simp [chgC, thereC, c2]]; rfl) | (rw [show chgC k false false = false by simp [chgC, thereC, c2]]; rfl))⟩
        by_cases c3 : k = [104]
        · rw [w_seq]
          simp only [c3, w_region, mk_clean, tS_cons, g_none, hold_app, o_move, Nat.reduceLT, move_tmp, movK, Nat.reduceBEq, look_miss, k16, vroA_str, dropLk, o_bin, nil_str, Bool.false_eq_true, rho_tmp, look_hit, rho_const, constDV, s_eql, d2, mk_put?_some, vroA_bool, g_some, gq_succ, gq_zero, gs1_eq, gs2_ff, mk_setT, d3, o_pick, pk, if_false, decide_true, o_assign, take_tmp, takK, mk_put, tS_nil, hold_app2]
          rw [w_seq]
          simp only [w_region, mk_clean, tS_cons, g_none, hold_app, o_move, Nat.reduceLT, move_tmp, movK, Nat.reduceBEq, look_miss, k3, vroA_bool, dropLk, look_hit, g_some, gq_succ, gq_zero, gs1_eq, gs2_ft, mk_setT, mk_put?_some, o_pick, rho_tmp, rho_const, constDV, pk, Bool.false_eq_true, vroA_tup, List.map_nil, if_false, gs2_ff, o_un, u_not, Bool.not_false, gs2_tt, Bool.not_true, k4, if_true, o_assign, take_tmp, takK, mk_put, tS_nil, hold_app2]
          with_reducible refine key _ _ ?_
          exact ⟨k11, k13, k14, k15, k16, (by first | (rw [show chgC k false false = true by simp [chgC, thereC, c3]]; rfl) | (rw [show chgC k false false = false by simp [chgC, thereC, c3]]; rfl))⟩
        · rw [w_seq]
          simp only [w_region, mk_clean, tS_cons, g_none, hold_app, o_move, Nat.reduceLT, move_tmp, movK, Nat.reduceBEq, look_miss, k16, vroA_str, dropLk, o_bin, nil_str, Bool.false_eq_true, rho_tmp, look_hit, rho_const, constDV, s_eql, c1, decide_false, mk_put?_some, vroA_bool, g_some, gq_succ, gq_zero, gs1_eq, gs2_ff, mk_setT, c2, o_pick, pk, if_false, c3, o_assign, take_tmp, takK, mk_put, tS_nil, hold_app2]
          rw [w_seq]
          simp only [w_region, mk_clean, tS_cons, g_none, hold_app, o_move, Nat.reduceLT, move_tmp, movK, Nat.reduceBEq, look_miss, k3, vroA_bool, dropLk, look_hit, g_some, gq_succ, gq_zero, gs1_eq, gs2_ft, mk_setT, mk_put?_some, o_pick, rho_tmp, rho_const, constDV, pk, Bool.false_eq_true, vroA_tup, List.map_nil, if_false, gs2_ff, o_un, u_not, Bool.not_false, gs2_tt, gs2_tf, if_true, o_assign, take_tmp, takK, mk_put, tS_nil, hold_app2]
          with_reducible refine key _ _ ?_
          exact ⟨k11, k13, k14, k15, k16, (by first | (rw [show chgC k false false = true by simp [chgC, thereC, c1, c2, c3]]; rfl) | (rw [show chgC k false false = false by simp [chgC, thereC, c1, c2, c3]]; rfl))⟩
      rintro l B ⟨k11, k13, k14, k15, k16, k19⟩
      have r1 := ranges_some z false false i j
      have r2 := ranges_all z false false
      have r3 := ranges_key z false false
      rw [hk] at r2 r3
      rw [hk, hlo, hhi] at r1
      rw [← es5] at r1 r2 r3
      generalize chgC k false false = cc at r1 r2 r3 k19
      obtain ⟨p, hp⟩ : ∃ p, Op.bytesLess k lo = p := ⟨_, rfl⟩
      obtain ⟨q, hq⟩ : ∃ q, Op.bytesLess k hi' = q := ⟨_, rfl⟩
      rw [hp, hq] at r1
      obtain ⟨mm, hmm⟩ : ∃ mm, (cc && (!p && q)) = mm := ⟨_, rfl⟩
      rw [hmm] at r1
      simp only [w_seq, w_region, mk_clean, tS_cons, g_none, hold_app, o_move, Nat.reduceLT, move_tmp, movK, k13, vroA_ptr, dropLk, Nat.reduceBEq, look_miss, k14, vroA_str, k15, o_fn, args_cons, rho_tmp, look_hit, args_nil, mk_H, env_cons, Nat.reduceEqDiff, if_true, if_false, dcl_some, List.all_cons, vfla_ptr, vfla_str, List.all_nil, Bool.and_self, List.map_cons, vro_ptr, vro_str, List.map_nil, true_and]
      refine appSnMovX hx5 sn5 a5 g5 (by omega) fun H6 f6 => ?_
      rw [show (!decide (scanE E5.es lo hi' (min ((0 + 1 : Nat) : Int) ((0 + 1 + 1 : Nat) : Int)) = scanE E5.es lo hi' ((0 + 1 + 1 : Nat) : Int))) = _ from r1]
      simp only [hold_app2, mk_called, Pos.isHp, List.filter_nil, mk_put?_some, dropLk, hold_app, tS_cons, g_none, o_move, Nat.reduceLT, move_tmp, movK, look_hit, vroA_tup, List.map_cons, vro_bool, vro_int, List.map_nil, o_extract, rho_tmp, ex_0, ext_tmp, extK, Nat.reduceBEq, look_miss, ex_1, o_assign, take_tmp, takK, vroA_bool, mk_put, vroA_int, tS_nil, w_seq, w_region, mk_clean, k13, vroA_ptr, o_fn, args_cons, rho_const, constDV, args_nil, mk_H, env_cons, Nat.reduceEqDiff, if_true, if_false, dcl_some, List.all_cons, vfla_ptr, vfla_str, List.all_nil, Bool.and_self, vro_ptr, vro_str, true_and]
      refine appSnMovX hx5 (sn5.fr f6 (by simp)) (a5.fr0 f6) g5 (by omega) fun H7 f7 => ?_
      rw [show (!decide (scanE E5.es [] [] (min ((0 + 1 : Nat) : Int) ((0 + 1 + 1 : Nat) : Int)) = scanE E5.es [] [] ((0 + 1 + 1 : Nat) : Int))) = _ from r2]
      simp only [hold_app2, mk_called, Pos.isHp, List.filter_nil, mk_put?_some, dropLk, hold_app, tS_cons, g_none, o_move, Nat.reduceLT, move_tmp, movK, look_hit, vroA_tup, List.map_cons, vro_bool, vro_int, List.map_nil, o_extract, rho_tmp, ex_0, ext_tmp, extK, Nat.reduceBEq, look_miss, ex_1, o_assign, take_tmp, takK, vroA_bool, mk_put, vroA_int, tS_nil, w_seq, w_region, mk_clean, k13, vroA_ptr, k16, vroA_str, o_fn, args_cons, args_nil, mk_H, env_cons, Nat.reduceEqDiff, if_false, if_true, dcl_some, List.all_cons, vfla_ptr, vfla_str, List.all_nil, Bool.and_self, vro_ptr, vro_str, true_and]
      refine appSnChgX hx5 ((sn5.fr f6 (by simp)).fr f7 (by simp)) ((a5.fr0 f6).fr0 f7) g5 (by omega) fun H8 f8 => ?_
      rw [show (!decide (seenE E5.es k (min ((0 + 1 : Nat) : Int) ((0 + 1 + 1 : Nat) : Int)) = seenE E5.es k ((0 + 1 + 1 : Nat) : Int))) = _ from r3]
      cases cc <;> cases p <;> cases q <;> cases hmm <;> simp only [hold_app2, Bool.not_false, Bool.true_and, Bool.and_self, mk_called, Pos.isHp, List.filter_nil, mk_put?_some, dropLk, hold_app, tS_cons, g_none, o_move, Nat.reduceLT, move_tmp, movK, look_hit, vroA_tup, List.map_cons, vro_bool, vro_int, List.map_nil, o_extract, rho_tmp, ex_0, ext_tmp, extK, Nat.reduceBEq, look_miss, ex_1, o_assign, take_tmp, takK, vroA_bool, mk_put, vroA_int, tS_nil, w_seq, w_region, mk_clean, o_bin, nil_int, Bool.false_eq_true, rho_const, constDV, b_eql, decide_true, g_some, gq_succ, gq_zero, gs1_eq, gs2_tt, mk_setT, o_pick, pk, if_true, k19, gs2_ft, if_false, nil_tmp, t_eql Go.Proofs.Tryz.underlying4, beq_self_eq_true, w_ret, ret_one, vfla_bool, true_and, Bool.and_true, Bool.not_true, k16, vroA_str, k14, s_geq, hp, k15, s_lss, hq]
      all_goals exact rfl
    · simp only [w_seq, w_region, mk_clean, tS_cons, g_none, hold_app, o_move, Nat.reduceLT, move_tmp, movK, k16, vroA_str, dropLk, Nat.reduceBEq, look_miss, k3, vroA_bool, bd32, mk_put, bd32_0, take_tmp, takK, look_hit, bdk_eq, vcl_str, List.length_cons, List.length_nil, Nat.zero_add, Nat.reduceAdd, Nat.reduceLeDiff, List.all_cons, vsca_str, List.all_nil, Bool.and_self, putAt_eq, List.take_zero, List.nil_append, List.drop_succ_cons, List.drop_zero, List.cons_append, hold_app2, bd32_1, vcl_bool, vsca_bool, List.take_succ_cons, bd_nil, al32, nv_if, isO_eq, Bool.false_eq_true, vcl_agg, bgen_eq, bget_nil, bset_nil, if_false, o_store, List.map_cons, vro1_str, vro1_bool, List.map_nil, rho_tmp, st_b, bget_cons, if_true, stb_some, Proofs.Tryz.underlying32, Option.isSome_some, cn32, List.drop_nil, List.append_nil, mk_setB, bset_cons, Pos.inBox, List.filter_nil, tS_nil, o_un, u_not, Bool.not_false, mk_put?_some, w_cond, cd_t, o_fieldAddr, fl32_2, take_const, constDV, Proofs.Tryz.underlying9, cn9, k4, k11, vroA_ptr, o_load, ld_b, dlb_some, la32, lo_agg, bs33_1, vro_agg, bsl_f, beq_self_eq_true, o_fn, args_cons, rho_const, args_nil, mk_H, env_cons, Nat.reduceEqDiff, dcl_some, vfla_ptr, vfla_sl, vfla_bool, vro_ptr, vro_sl, vro_bool, true_and]
      refine appDoX [wrC k false true] hx4 a4 g4 (by omega) (.inl ⟨_, rfl⟩) (by simp) hbat fun H5 E5 f5 hx5 a5 g5 es5 hd5 al5 => ?_
      replace es5 := heq E5 es5
      simp only [Nat.zero_add, Nat.reduceAdd, nc2, hold_app2, mk_called, Pos.isHp, List.filter_nil, mk_put?_some, dropLk, hold_app, tS_nil]
      have sn5 := sn4.fr f5 hs4'
      refine' cap (A := ∀ (l : List (Nat × DV)) (B : List (Nat × Nat × List DV)), (look 11 l = .ptr x 0 ∧ look 13 l = .ptr s 0 ∧ look 14 l = .str lo ∧ look 15 l = .str hi' ∧ look 16 l = .str k ∧ look 19 l = .bool (chgC k false true)) → dwp pp noO _ _ _ (mk 153 l B H5 [])) ?h ?g
      case g =>
        intro key
        by_cases c1 : k = [99]
        · rw [w_seq]
          simp only [c1, w_region, mk_clean, tS_cons, g_none, hold_app, o_move, Nat.reduceLT, move_tmp, movK, Nat.reduceBEq, look_miss, k16, vroA_str, dropLk, o_bin, nil_str, Bool.false_eq_true, rho_tmp, look_hit, rho_const, constDV, s_eql, decide_true, mk_put?_some, vroA_bool, g_some, gq_succ, gq_zero, gs1_eq, gs2_tf, mk_setT, o_pick, pk, vroA_tup, List.map_nil, if_true, o_assign, take_tmp, takK, mk_put, tS_nil, hold_app2, if_false]
          rw [w_seq]
          simp only [w_region, mk_clean, tS_cons, g_none, hold_app, o_move, Nat.reduceLT, move_tmp, movK, Nat.reduceBEq, look_miss, k3, vroA_bool, dropLk, look_hit, g_some, gq_succ, gq_zero, gs1_eq, gs2_ft, mk_setT, mk_put?_some, o_pick, rho_tmp, rho_const, constDV, pk, Bool.false_eq_true, vroA_tup, List.map_nil, if_false, gs2_ff, o_un, u_not, Bool.not_false, gs2_tt, Bool.not_true, k4, if_true, o_assign, take_tmp, takK, mk_put, tS_nil, hold_app2]
          with_reducible refine key _ _ ?_
          exact ⟨k11, k13, k14, k15, k16, (by first | (rw [show chgC k false true = true by simp [chgC, thereC, c1]]; rfl) | (rw [show chgC k false true = false by simp [chgC, thereC, c1]]; rfl))⟩
        by_cases c2 : k = [102]
        · rw [w_seq]
          simp only [c2, w_region, mk_clean, tS_cons, g_none, hold_app, o_move, Nat.reduceLT, move_tmp, movK, Nat.reduceBEq, look_miss, k16, vroA_str, dropLk, o_bin, nil_str, Bool.false_eq_true, rho_tmp, look_hit, rho_const, constDV, s_eql, d1, mk_put?_some, vroA_bool, g_some, gq_succ, gq_zero, gs1_eq, gs2_ff, mk_setT, decide_true, o_pick, pk, if_false, gs2_tf, vroA_tup, List.map_nil, if_true, o_assign, take_tmp, takK, mk_put, tS_nil, hold_app2]
          rw [w_seq]
          simp only [w_region, mk_clean, tS_cons, g_none, hold_app, o_move, Nat.reduceLT, move_tmp, movK, Nat.reduceBEq, look_miss, k3, vroA_bool, dropLk, look_hit, g_some, gq_succ, gq_zero, gs1_eq, gs2_ft, mk_setT, mk_put?_some, o_pick, rho_tmp, rho_const, constDV, pk, Bool.false_eq_true, vroA_tup, List.map_nil, if_false, gs2_ff, o_un, u_not, Bool.not_false, gs2_tt, Bool.not_true, k4, if_true, o_assign, take_tmp, takK, mk_put, tS_nil, hold_app2]
          with_reducible refine key _ _ ?_
          exact ⟨k11, k13, k14, k15, k16, (by first | (rw [show chgC k false true = true by simp [chgC, thereC, c2]]; rfl) | (rw [show chgC k false true = false by simp [chgC, thereC, c2]]; rfl))⟩
        by_cases c3 : k = [104]
        · rw [w_seq]
          simp only [c3, w_region, mk_clean, tS_cons, g_none, hold_app, o_move, Nat.reduceLT, move_tmp, movK, Nat.reduceBEq, look_miss, k16, vroA_str, dropLk, o_bin, nil_str, Bool.false_eq_true, rho_tmp, look_hit, rho_const, constDV, s_eql, d2, mk_put?_some, vroA_bool, g_some, gq_succ, gq_zero, gs1_eq, gs2_ff, mk_setT, d3, o_pick, pk, if_false, decide_true, o_assign, take_tmp, takK, mk_put, tS_nil, hold_app2]
          rw [w_seq]
          simp only [w_region, mk_clean, tS_cons, g_none, hold_app, o_move, Nat.reduceLT, move_tmp, movK, Nat.reduceBEq, look_miss, k3, vroA_bool, dropLk, look_hit, g_some, gq_succ, gq_zero, gs1_eq, gs2_ft, mk_setT, mk_put?_some, o_pick, rho_tmp, rho_const, constDV, pk, Bool.false_eq_true, vroA_tup, List.map_nil, if_false, gs2_ff, o_un, u_not, Bool.not_false, gs2_tt, Bool.not_true, k4, if_true, o_assign, take_tmp, takK, mk_put, tS_nil, hold_app2]
          with_reducible refine key _ _ ?_
          exact ⟨k11, k13, k14, k15, k16, (by first | (rw [show chgC k false true = true by simp [chgC, thereC, c3]]; rfl) | (rw [show chgC k false true = false by simp [chgC, thereC, c3]]; rfl))⟩
        · rw [w_seq]
          simp only [w_region, mk_clean, tS_cons, g_none, hold_app, o_move, Nat.reduceLT, move_tmp, movK, Nat.reduceBEq, look_miss, k16, vroA_str, dropLk, o_bin, nil_str, Bool.false_eq_true, rho_tmp, look_hit, rho_const, constDV, s_eql, c1, decide_false, mk_put?_some, vroA_bool, g_some, gq_succ, gq_zero, gs1_eq, gs2_ff, mk_setT, c2, o_pick, pk, if_false, c3, o_assign, take_tmp, takK, mk_put, tS_nil, hold_app2]
          rw [w_seq]
          simp only [w_region, mk_clean, tS_cons, g_none, hold_app, o_move, Nat.reduceLT, move_tmp, movK, Nat.reduceBEq, look_miss, k3, vroA_bool, dropLk, look_hit, g_some, gq_succ, gq_zero, gs1_eq, gs2_ft, mk_setT, mk_put?_some, o_pick, rho_tmp, rho_const, constDV, pk, Bool.false_eq_true, vroA_tup, List.map_nil, if_false, gs2_ff, o_un, u_not, Bool.not_false, gs2_tt, gs2_tf, if_true, o_assign, take_tmp, takK, mk_put, tS_nil, hold_app2]
          with_reducible refine key _ _ ?_
          exact ⟨k11, k13, k14, k15, k16, (by first | (rw [show chgC k false true = true by simp [chgC, thereC, c1, c2, c3]]; rfl) | (rw [show chgC k false true = false by simp [chgC, thereC, c1, c2, c3]]; rfl))⟩
      rintro l B ⟨k11, k13, k14, k15, k16, k19⟩
      have r1 := ranges_some z false true i j
      have r2 := ranges_all z false true
      have r3 := ranges_key z false true
      rw [hk] at r2 r3
      rw [hk, hlo, hhi] at r1
      rw [← es5] at r1 r2 r3
      generalize chgC k false true = cc at r1 r2 r3 k19
      obtain ⟨p, hp⟩ : ∃ p, Op.bytesLess k lo = p := ⟨_, rfl⟩
      obtain ⟨q, hq⟩ : ∃ q, Op.bytesLess k hi' = q := ⟨_, rfl⟩
      rw [hp, hq] at r1
      obtain ⟨mm, hmm⟩ : ∃ mm, (cc && (!p && q)) = mm := ⟨_, rfl⟩
      rw [hmm] at r1
      simp only [w_seq, w_region, mk_clean, tS_cons, g_none, hold_app, o_move, Nat.reduceLT, move_tmp, movK, k13, vroA_ptr, dropLk, Nat.reduceBEq, look_miss, k14, vroA_str, k15, o_fn, args_cons, rho_tmp, look_hit, args_nil, mk_H, env_cons, Nat.reduceEqDiff, if_true, if_false, dcl_some, List.all_cons, vfla_ptr, vfla_str, List.all_nil, Bool.and_self, List.map_cons, vro_ptr, vro_str, List.map_nil, true_and]
      refine appSnMovX hx5 sn5 a5 g5 (by omega) fun H6 f6 => ?_
      rw [show (!decide (scanE E5.es lo hi' (min ((0 + 1 : Nat) : Int) ((0 + 1 + 1 : Nat) : Int)) = scanE E5.es lo hi' ((0 + 1 + 1 : Nat) : Int))) = _ from r1]
      simp only [hold_app2, mk_called, Pos.isHp, List.filter_nil, mk_put?_some, dropLk, hold_app, tS_cons, g_none, o_move, Nat.reduceLT, move_tmp, movK, look_hit, vroA_tup, List.map_cons, vro_bool, vro_int, List.map_nil, o_extract, rho_tmp, ex_0, ext_tmp, extK, Nat.reduceBEq, look_miss, ex_1, o_assign, take_tmp, takK, vroA_bool, mk_put, vroA_int, tS_nil, w_seq, w_region, mk_clean, k13, vroA_ptr, o_fn, args_cons, rho_const, constDV, args_nil, mk_H, env_cons, Nat.reduceEqDiff, if_true, if_false, dcl_some, List.all_cons, vfla_ptr, vfla_str, List.all_nil, Bool.and_self, vro_ptr, vro_str, true_and]
      refine appSnMovX hx5 (sn5.fr f6 (by simp)) (a5.fr0 f6) g5 (by omega) fun H7 f7 => ?_
      rw [show (!decide (scanE E5.es [] [] (min ((0 + 1 : Nat) : Int) ((0 + 1 + 1 : Nat) : Int)) = scanE E5.es [] [] ((0 + 1 + 1 : Nat) : Int))) = _ from r2]
      simp only [hold_app2, mk_called, Pos.isHp, List.filter_nil, mk_put?_some, dropLk, hold_app, tS_cons, g_none, o_move, Nat.reduceLT, move_tmp, movK, look_hit, vroA_tup, List.map_cons, vro_bool, vro_int, List.map_nil, o_extract, rho_tmp, ex_0, ext_tmp, extK, Nat.reduceBEq, look_miss, ex_1, o_assign, take_tmp, takK, vroA_bool, mk_put, vroA_int, tS_nil, w_seq, w_region, mk_clean, k13, vroA_ptr, k16, vroA_str, o_fn, args_cons, args_nil, mk_H, env_cons, Nat.reduceEqDiff, if_false, if_true, dcl_some, List.all_cons, vfla_ptr, vfla_str, List.all_nil, Bool.and_self, vro_ptr, vro_str, true_and]
      refine appSnChgX hx5 ((sn5.fr f6 (by simp)).fr f7 (by simp)) ((a5.fr0 f6).fr0 f7) g5 (by omega) fun H8 f8 => ?_
      rw [show (!decide (seenE E5.es k (min ((0 + 1 : Nat) : Int) ((0 + 1 + 1 : Nat) : Int)) = seenE E5.es k ((0 + 1 + 1 : Nat) : Int))) = _ from r3]
      cases cc <;> cases p <;> cases q <;> cases hmm <;> simp only [hold_app2, Bool.not_false, Bool.true_and, Bool.and_self, mk_called, Pos.isHp, List.filter_nil, mk_put?_some, dropLk, hold_app, tS_cons, g_none, o_move, Nat.reduceLT, move_tmp, movK, look_hit, vroA_tup, List.map_cons, vro_bool, vro_int, List.map_nil, o_extract, rho_tmp, ex_0, ext_tmp, extK, Nat.reduceBEq, look_miss, ex_1, o_assign, take_tmp, takK, vroA_bool, mk_put, vroA_int, tS_nil, w_seq, w_region, mk_clean, o_bin, nil_int, Bool.false_eq_true, rho_const, constDV, b_eql, decide_true, g_some, gq_succ, gq_zero, gs1_eq, gs2_tt, mk_setT, o_pick, pk, if_true, k19, gs2_ft, if_false, nil_tmp, t_eql Go.Proofs.Tryz.underlying4, beq_self_eq_true, w_ret, ret_one, vfla_bool, true_and, Bool.and_true, Bool.not_true, k16, vroA_str, k14, s_geq, hp, k15, s_lss, hq]
      all_goals exact rfl
  · simp only [w_seq, w_region, mk_clean, tS_cons, g_none, hold_app, o_move, Nat.reduceLT, move_tmp, movK, k16, vroA_str, dropLk, Nat.reduceBEq, look_miss, k3, vroA_bool, bd32, mk_put, bd32_0, take_tmp, takK, look_hit, bdk_eq, vcl_str, List.length_cons, List.length_nil, Nat.zero_add, Nat.reduceAdd, Nat.reduceLeDiff, List.all_cons, vsca_str, List.all_nil, Bool.and_self, putAt_eq, List.take_zero, List.nil_append, List.drop_succ_cons, List.drop_zero, List.cons_append, hold_app2, bd32_1, vcl_bool, vsca_bool, List.take_succ_cons, bd_nil, al32, nv_if, isO_eq, Bool.false_eq_true, vcl_agg, bgen_eq, bget_nil, bset_nil, if_false, o_store, List.map_cons, vro1_str, vro1_bool, List.map_nil, rho_tmp, st_b, bget_cons, if_true, stb_some, Proofs.Tryz.underlying32, Option.isSome_some, cn32, List.drop_nil, List.append_nil, mk_setB, bset_cons, Pos.inBox, List.filter_nil, tS_nil, o_un, u_not, Bool.not_true, mk_put?_some, w_cond, cd_f, w_skip, k11, vroA_ptr, o_load, ld_b, dlb_some, la32, lo_agg, bs33_1, vro_agg, bsl_f, beq_self_eq_true, o_fn, args_cons, rho_const, constDV, args_nil, mk_H, env_cons, Nat.reduceEqDiff, dcl_some, vfla_ptr, vfla_sl, vfla_bool, vro_ptr, vro_sl, vro_bool, true_and]
    refine appDoX [wrC k true same] hx4 a4 g4 (by omega) (.inl ⟨_, rfl⟩) (by simp) hbat fun H5 E5 f5 hx5 a5 g5 es5 hd5 al5 => ?_
    replace es5 := heq E5 es5
    simp only [Nat.zero_add, Nat.reduceAdd, nc2, hold_app2, mk_called, Pos.isHp, List.filter_nil, mk_put?_some, dropLk, hold_app, tS_nil]
    have sn5 := sn4.fr f5 hs4'
    refine' cap (A := ∀ (l : List (Nat × DV)) (B : List (Nat × Nat × List DV)), (look 11 l = .ptr x 0 ∧ look 13 l = .ptr s 0 ∧ look 14 l = .str lo ∧ look 15 l = .str hi' ∧ look 16 l = .str k ∧ look 19 l = .bool (chgC k true same)) → dwp pp noO _ _ _ (mk 153 l B H5 [])) ?h ?g
    case g =>
      intro key
      by_cases c1 : k = [99]
      · rw [w_seq]
        simp only [c1, w_region, mk_clean, tS_cons, g_none, hold_app, o_move, Nat.reduceLT, move_tmp, movK, Nat.reduceBEq, look_miss, k16, vroA_str, dropLk, o_bin, nil_str, Bool.false_eq_true, rho_tmp, look_hit, rho_const, constDV, s_eql, decide_true, mk_put?_some, vroA_bool, g_some, gq_succ, gq_zero, gs1_eq, gs2_tf, mk_setT, o_pick, pk, vroA_tup, List.map_nil, if_true, o_assign, take_tmp, takK, mk_put, tS_nil, hold_app2, if_false]
        rw [w_seq]
        simp only [w_region, mk_clean, tS_cons, g_none, hold_app, o_move, Nat.reduceLT, move_tmp, movK, Nat.reduceBEq, look_miss, k3, vroA_bool, dropLk, look_hit, g_some, gq_succ, gq_zero, gs1_eq, gs2_tt, mk_setT, o_pick, rho_tmp, rho_const, constDV, pk, if_true, mk_put?_some, gs2_tf, gs2_tup, vroA_tup, List.map_nil, o_assign, take_tmp, takK, mk_put, tS_nil, hold_app2]
        with_reducible refine key _ _ ?_
        exact ⟨k11, k13, k14, k15, k16, (by first | (rw [show chgC k true same = true by simp [chgC, thereC, c1]]; rfl) | (rw [show chgC k true same = false by simp [chgC, thereC, c1]]; rfl))⟩
      by_cases c2 : k = [102]
      · rw [w_seq]
        simp only [c2, w_region, mk_clean, tS_cons, g_none, hold_app, o_move, Nat.reduceLT, move_tmp, movK, Nat.reduceBEq, look_miss, k16, vroA_str, dropLk, o_bin, nil_str, Bool.false_eq_true, rho_tmp, look_hit, rho_const, constDV, s_eql, d1, mk_put?_some, vroA_bool, g_some, gq_succ, gq_zero, gs1_eq, gs2_ff, mk_setT, decide_true, o_pick, pk, if_false, gs2_tf, vroA_tup, List.map_nil, if_true, o_assign, take_tmp, takK, mk_put, tS_nil, hold_app2]
        rw [w_seq]
        simp only [w_region, mk_clean, tS_cons, g_none, hold_app, o_move, Nat.reduceLT, move_tmp, movK, Nat.reduceBEq, look_miss, k3, vroA_bool, dropLk, look_hit, g_some, gq_succ, gq_zero, gs1_eq, gs2_tt, mk_setT, o_pick, rho_tmp, rho_const, constDV, pk, if_true, mk_put?_some, gs2_tf, gs2_tup, vroA_tup, List.map_nil, o_assign, take_tmp, takK, mk_put, tS_nil, hold_app2]
        with_reducible refine key _ _ ?_
        exact ⟨k11, k13, k14, k15, k16, (by first | (rw [show chgC k true same = true by simp [chgC, thereC, c2]]; rfl) | (rw [show chgC k true same = false by simp [chgC, thereC, c2]]; rfl))⟩
      by_cases c3 : k = [104]
      · rw [w_seq]
        simp only [c3, w_region, mk_clean, tS_cons, g_none, hold_app, o_move, Nat.reduceLT, move_tmp, movK, Nat.reduceBEq, look_miss, k16, vroA_str, dropLk, o_bin, nil_str, Bool.false_eq_true, rho_tmp, look_hit, rho_const, constDV, s_eql, d2, mk_put?_some, vroA_bool, g_some, gq_succ, gq_zero, gs1_eq, gs2_ff, mk_setT, d3, o_pick, pk, if_false, decide_true, o_assign, take_tmp, takK, mk_put, tS_nil, hold_app2]
        rw [w_seq]
        simp only [w_region, mk_clean, tS_cons, g_none, hold_app, o_move, Nat.reduceLT, move_tmp, movK, Nat.reduceBEq, look_miss, k3, vroA_bool, dropLk, look_hit, g_some, gq_succ, gq_zero, gs1_eq, gs2_tt, mk_setT, o_pick, rho_tmp, rho_const, constDV, pk, if_true, mk_put?_some, gs2_tf, gs2_tup, vroA_tup, List.map_nil, o_assign, take_tmp, takK, mk_put, tS_nil, hold_app2]
        with_reducible refine key _ _ ?_
        exact ⟨k11, k13, k14, k15, k16, (by first | (rw [show chgC k true same = true by simp [chgC, thereC, c3]]; rfl) | (rw [show chgC k true same = false by simp [chgC, thereC, c3]]; rfl))⟩
      · rw [w_seq]
        simp only [w_region, mk_clean, tS_cons, g_none, hold_app, o_move, Nat.reduceLT, move_tmp, movK, Nat.reduceBEq, look_miss, k16, vroA_str, dropLk, o_bin, nil_str, Bool.false_eq_true, rho_tmp, look_hit, rho_const, constDV, s_eql, c1, decide_false, mk_put?_some, vroA_bool, g_some, gq_succ, gq_zero, gs1_eq, gs2_ff, mk_setT, c2, o_pick, pk, if_false, c3, o_assign, take_tmp, takK, mk_put, tS_nil, hold_app2]
        rw [w_seq]
        simp only [w_region, mk_clean, tS_cons, g_none, hold_app, o_move, Nat.reduceLT, move_tmp, movK, Nat.reduceBEq, look_miss, k3, vroA_bool, dropLk, look_hit, g_some, gq_succ, gq_zero, gs1_eq, gs2_tt, mk_setT, o_pick, rho_tmp, rho_const, constDV, pk, if_true, mk_put?_some, gs2_ff, o_un, u_not, Bool.not_true, gs2_ft, gs2_tup, Bool.false_eq_true, vroA_tup, List.map_nil, if_false, o_assign, take_tmp, takK, mk_put, tS_nil, hold_app2]
        with_reducible refine key _ _ ?_
        exact ⟨k11, k13, k14, k15, k16, (by first | (rw [show chgC k true same = true by simp [chgC, thereC, c1, c2, c3]]; rfl) | (rw [show chgC k true same = false by simp [chgC, thereC, c1, c2, c3]]; rfl))⟩
    rintro l B ⟨k11, k13, k14, k15, k16, k19⟩
    have r1 := ranges_some z true same i j
    have r2 := ranges_all z true same
    have r3 := ranges_key z true same
    rw [hk] at r2 r3
    rw [hk, hlo, hhi] at r1
    rw [← es5] at r1 r2 r3
    generalize chgC k true same = cc at r1 r2 r3 k19
    obtain ⟨p, hp⟩ : ∃ p, Op.bytesLess k lo = p := ⟨_, rfl⟩
    obtain ⟨q, hq⟩ : ∃ q, Op.bytesLess k hi' = q := ⟨_, rfl⟩
    rw [hp, hq] at r1
    obtain ⟨mm, hmm⟩ : ∃ mm, (cc && (!p && q)) = mm := ⟨_, rfl⟩
    rw [hmm] at r1
    simp only [w_seq, w_region, mk_clean, tS_cons, g_none, hold_app, o_move, Nat.reduceLT, move_tmp, movK, k13, vroA_ptr, dropLk, Nat.reduceBEq, look_miss, k14, vroA_str, k15, o_fn, args_cons, rho_tmp, look_hit, args_nil, mk_H, env_cons, Nat.reduceEqDiff, if_true, if_false, dcl_some, List.all_cons, vfla_ptr, vfla_str, List.all_nil, Bool.and_self, List.map_cons, vro_ptr, vro_str, List.map_nil, true_and]
    refine appSnMovX hx5 sn5 a5 g5 (by omega) fun H6 f6 => ?_
    rw [show (!decide (scanE E5.es lo hi' (min ((0 + 1 : Nat) : Int) ((0 + 1 + 1 : Nat) : Int)) = scanE E5.es lo hi' ((0 + 1 + 1 : Nat) : Int))) = _ from r1]
    simp only [hold_app2, mk_called, Pos.isHp, List.filter_nil, mk_put?_some, dropLk, hold_app, tS_cons, g_none, o_move, Nat.reduceLT, move_tmp, movK, look_hit, vroA_tup, List.map_cons, vro_bool, vro_int, List.map_nil, o_extract, rho_tmp, ex_0, ext_tmp, extK, Nat.reduceBEq, look_miss, ex_1, o_assign, take_tmp, takK, vroA_bool, mk_put, vroA_int, tS_nil, w_seq, w_region, mk_clean, k13, vroA_ptr, o_fn, args_cons, rho_const, constDV, args_nil, mk_H, env_cons, Nat.reduceEqDiff, if_true, if_false, dcl_some, List.all_cons, vfla_ptr, vfla_str, List.all_nil, Bool.and_self, vro_ptr, vro_str, true_and]
    refine appSnMovX hx5 (sn5.fr f6 (by simp)) (a5.fr0 f6) g5 (by omega) fun H7 f7 => ?_
    rw [show (!decide (scanE E5.es [] [] (min ((0 + 1 : Nat) : Int) ((0 + 1 + 1 : Nat) : Int)) = scanE E5.es [] [] ((0 + 1 + 1 : Nat) : Int))) = _ from r2]
    simp only [hold_app2, mk_called, Pos.isHp, List.filter_nil, mk_put?_some, dropLk, hold_app, tS_cons, g_none, o_move, Nat.reduceLT, move_tmp, movK, look_hit, vroA_tup, List.map_cons, vro_bool, vro_int, List.map_nil, o_extract, rho_tmp, ex_0, ext_tmp, extK, Nat.reduceBEq, look_miss, ex_1, o_assign, take_tmp, takK, vroA_bool, mk_put, vroA_int, tS_nil, w_seq, w_region, mk_clean, k13, vroA_ptr, k16, vroA_str, o_fn, args_cons, args_nil, mk_H, env_cons, Nat.reduceEqDiff, if_false, if_true, dcl_some, List.all_cons, vfla_ptr, vfla_str, List.all_nil, Bool.and_self, vro_ptr, vro_str, true_and]
    refine appSnChgX hx5 ((sn5.fr f6 (by simp)).fr f7 (by simp)) ((a5.fr0 f6).fr0 f7) g5 (by omega) fun H8 f8 => ?_
    rw [show (!decide (seenE E5.es k (min ((0 + 1 : Nat) : Int) ((0 + 1 + 1 : Nat) : Int)) = seenE E5.es k ((0 + 1 + 1 : Nat) : Int))) = _ from r3]
    cases cc <;> cases p <;> cases q <;> cases hmm <;> simp only [hold_app2, Bool.not_false, Bool.true_and, Bool.and_self, mk_called, Pos.isHp, List.filter_nil, mk_put?_some, dropLk, hold_app, tS_cons, g_none, o_move, Nat.reduceLT, move_tmp, movK, look_hit, vroA_tup, List.map_cons, vro_bool, vro_int, List.map_nil, o_extract, rho_tmp, ex_0, ext_tmp, extK, Nat.reduceBEq, look_miss, ex_1, o_assign, take_tmp, takK, vroA_bool, mk_put, vroA_int, tS_nil, w_seq, w_region, mk_clean, o_bin, nil_int, Bool.false_eq_true, rho_const, constDV, b_eql, decide_true, g_some, gq_succ, gq_zero, gs1_eq, gs2_tt, mk_setT, o_pick, pk, if_true, k19, gs2_ft, if_false, nil_tmp, t_eql Go.Proofs.Tryz.underlying4, beq_self_eq_true, w_ret, ret_one, vfla_bool, true_and, Bool.and_true, Bool.not_true, k16, vroA_str, k14, s_geq, hp, k15, s_lss, hq]
    all_goals exact rfl
end Go.Ab.En
