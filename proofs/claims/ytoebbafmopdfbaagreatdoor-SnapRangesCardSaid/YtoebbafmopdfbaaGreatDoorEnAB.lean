/- A part of the proofs that a law function returns true at every input; it has no condition of its own. -/
import Derived.Test.YtoebbafmopdfbaaGreatDoorEnW
set_option linter.unusedSimpArgs false
set_option linter.unusedVariables false
/- EnAA: The engine's laws: no table is read. -/
namespace Go.Ab.En
open Go Go.Conc Go.RowKit Go.Ab
set_option maxRecDepth 10000
noncomputable def b99 : Code := (Go.Proofs.Tryz.f99.body).getD .skip
theorem hb99 : Go.Proofs.Tryz.f99.body = some b99 := by kernel_rfl
def SFst0 : Spec := fun H args K => ∃ (own : Bool), args = [.sl own 1 []] ∧ K H (.int .i64 0)
theorem rcFst0 {I : Jd pp} (hI : ∀ w e, I.Ok w e) : RC I 73 SFst0 := by
  refine rc_of_code (isObj := noO) (Γ := envOf []) (rs := [2]) mixed hI (envOf_rc (by simp)) Go.Proofs.Tryz.func73 (by kernel_rfl) hb73 Go.Proofs.Tryz.results73 Go.Proofs.Tryz.ntmps73 (by decide) ?_
  rintro H args K ⟨own, rfl, hK⟩
  refine ⟨by simp, rfl, ?_⟩
  unfold b73 Go.Proofs.Tryz.f73
  simp only [Option.getD_some, argSlots, vro_sl, w_seq, w_region, mk_clean, tS_cons, g_none, hold_app, o_assign, take_const, constDV, mk_put, dropLk, tS_nil, hold_app2, o_move, Nat.reduceLT, move_tmp, movK, Nat.reduceBEq, look_miss, look_hit, lkGet, o_len, rho_tmp, dl202, List.length_nil, nc0, mk_put?_some, move_const, vroA_int, w_block]
  refine w_unroll 1 ?_
  simp only [lw_succ, w_seq, w_region, mk_clean, tS_cons, g_none, hold_app, o_bin, nil_tmp, Bool.false_eq_true, Nat.reduceLT, rho_tmp, look_hit, Nat.reduceBEq, look_miss, b_lss, Int.reduceLT, decide_false, mk_put?_some, dropLk, tS_nil, hold_app2, w_cond, cd_f, w_exit, o_assign, take_const, constDV, mk_put, w_ret, ret_one, vfla_int, true_and, if_true, if_false]
  exact hK
theorem appFst0 {H : List HObj} {K : List HObj → DV → Prop} {own : Bool} (h : K H (.int .i64 0)) : app SFst0 H [.sl own 1 []] K := ⟨own, rfl, h⟩
def SRows0h : Spec := fun H args K => ∃ (x : Nat) (a b : Str) (own : Bool), args = [.ptr x 0, .str a, .str b, .sl own 5 []] ∧ ∀ H' id, Fr [] H H' → K H' (.tup [.hsl id 1 0 0 0, .int .i64 0])
set_option maxHeartbeats 4000000 in
theorem rcRows0h {I : Jd pp} (hI : ∀ w e, I.Ok w e) : RC I 99 SRows0h := by
  refine rc_of_code (isObj := isR) (Γ := envOf [(73, SFst0)]) (rs := [8, 9]) mixed hI (envOf_rc (by simpa using rcFst0 hI)) Go.Proofs.Tryz.func99 (by kernel_rfl) hb99 Go.Proofs.Tryz.results99 Go.Proofs.Tryz.ntmps99 (by decide) ?_
  rintro H args K ⟨x, a, b, own, rfl, hK⟩
  refine ⟨by simp, rfl, ?_⟩
  unfold b99 Go.Proofs.Tryz.f99
  simp only [Option.getD_some, argSlots, vro_ptr, Nat.zero_add, vro_str, Nat.reduceAdd, vro_sl, w_seq, w_region, mk_clean, tS_cons, g_none, hold_app, o_box, Nat.reduceLT, take_tmp, takK, look_hit, vroA_ptr, vcl_ptr, List.all_cons, vsca_ptr, List.all_nil, Bool.and_self, nv_if, isR_eq, Nat.reduceBEq, Bool.false_eq_true, dropLk, bgen_eq, bget_nil, bset_nil, if_false, look_miss, vroA_str, vcl_str, vsca_str, bget_cons, Nat.reduceEqDiff, bset_cons, o_assign, take_const, constDV, Proofs.Tryz.underlying154, cn125, mk_put, tS_nil, hold_app2, true_and]
  refine w_draw [0, 1, 2, 3, 4, 5] (.acts [(0, [], .acts [(1, [], .acts [(2, [], .acts [(3, [], .acts [(4, [], .acts [(5, [], .done)])])]), (3, [], .acts [(2, [], .acts [(4, [], .acts [(5, [], .done)])])])]), (2, [], .acts [(1, [], .acts [(3, [], .acts [(4, [], .acts [(5, [], .done)])])]), (3, [], .acts [(1, [], .acts [(4, [], .acts [(5, [], .done)])]), (4, [], .acts [(1, [], .acts [(5, [], .done)])])])]), (3, [], .acts [(1, [], .acts [(2, [], .acts [(4, [], .acts [(5, [], .done)])])]), (2, [], .acts [(1, [], .acts [(4, [], .acts [(5, [], .done)])]), (4, [], .acts [(1, [], .acts [(5, [], .done)])])])])]), (1, [], .acts [(0, [], .acts [(2, [], .acts [(3, [], .acts [(4, [], .acts [(5, [], .done)])])]), (3, [], .acts [(2, [], .acts [(4, [], .acts [(5, [], .done)])])])]), (2, [], .acts [(0, [], .acts [(3, [], .acts [(4, [], .acts [(5, [], .done)])])]), (3, [], .acts [(0, [], .acts [(4, [], .acts [(5, [], .done)])])])]), (3, [], .acts [(0, [], .acts [(2, [], .acts [(4, [], .acts [(5, [], .done)])])]), (2, [], .acts [(0, [], .acts [(4, [], .acts [(5, [], .done)])])])])]), (2, [], .acts [(0, [], .acts [(1, [], .acts [(3, [], .acts [(4, [], .acts [(5, [], .done)])])]), (3, [], .acts [(1, [], .acts [(4, [], .acts [(5, [], .done)])]), (4, [], .acts [(1, [], .acts [(5, [], .done)])])])]), (1, [], .acts [(0, [], .acts [(3, [], .acts [(4, [], .acts [(5, [], .done)])])]), (3, [], .acts [(0, [], .acts [(4, [], .acts [(5, [], .done)])])])]), (3, [], .acts [(0, [], .acts [(1, [], .acts [(4, [], .acts [(5, [], .done)])]), (4, [], .acts [(1, [], .acts [(5, [], .done)])])]), (1, [], .acts [(0, [], .acts [(4, [], .acts [(5, [], .done)])])])])]), (3, [], .acts [(0, [], .acts [(1, [], .acts [(2, [], .acts [(4, [], .acts [(5, [], .done)])])]), (2, [], .acts [(1, [], .acts [(4, [], .acts [(5, [], .done)])]), (4, [], .acts [(1, [], .acts [(5, [], .done)])])])]), (1, [], .acts [(0, [], .acts [(2, [], .acts [(4, [], .acts [(5, [], .done)])])]), (2, [], .acts [(0, [], .acts [(4, [], .acts [(5, [], .done)])])])]), (2, [], .acts [(0, [], .acts [(1, [], .acts [(4, [], .acts [(5, [], .done)])]), (4, [], .acts [(1, [], .acts [(5, [], .done)])])]), (1, [], .acts [(0, [], .acts [(4, [], .acts [(5, [], .done)])])])])])]) (by decide) (by kernel_rfl) ?_
  simp only [mk_clean, rp_acts, ra_cons, rpA_zero, g_none, hold_app, mc217, rho_const, constDV, mkC_int, Int.reduceLE, Int.reduceToNat, Nat.mul_zero, Nat.reduceLeDiff, dropLk, rcA_nil, slL_nil, mk_unlink, dropLks, rpA_succ, mc218, al217, nv_if, isR_eq, Nat.reduceBEq, Bool.false_eq_true, vcl_any, bgen_eq, bget_cons, Nat.reduceEqDiff, bget_nil, if_false, bset_cons, bset_nil, al218, o_store, Nat.reduceLT, take_tmp, takK, look_miss, look_hit, vroA_any, rho_tmp, st_b, if_true, stb_some, Proofs.Tryz.underlying217, Option.isSome_some, List.length_cons, List.length_nil, Nat.zero_add, cn217, List.all_cons, vsca_any, List.all_nil, Bool.and_self, putAt_eq, List.take_zero, List.nil_append, List.drop_succ_cons, List.drop_nil, List.append_nil, mk_setB, Pos.inBox, List.filter_nil, Proofs.Tryz.underlying218, cn218, rp_done, hold_app2, w_seq, w_region, tS_cons, o_move, move_tmp, movK, lkGet, o_len, dl131, nc0, mk_put?_some, move_const, vroA_int, tS_nil, w_block, true_and, ra_nil, and_true]
  repeat' apply And.intro
  all_goals (refine w_unroll 1 ?_; simp only [lw_succ, w_seq, w_region, mk_clean, tS_cons, g_none, hold_app, o_bin, nil_tmp, Bool.false_eq_true, Nat.reduceLT, rho_tmp, look_hit, Nat.reduceBEq, look_miss, b_lss, Int.reduceLT, decide_false, mk_put?_some, dropLk, tS_nil, hold_app2, w_cond, cd_f, w_exit, o_move, move_tmp, movK, lkGet, o_len, dl131, List.length_nil, nc0, mk154, isR_eq, beq_self_eq_true, mkS_t, Int.reduceLE, Int.reduceToNat, Nat.zero_mul, Nat.reduceLeDiff, List.replicate_zero, o_assign, take_tmp, takK, vroA_hsl, mk_put, mk202, mkS_f, vroA_int, w_block, true_and, if_true, if_false])
  all_goals (first | (refine w_unroll 1 ?_; simp only [lw_succ, w_seq, w_region, mk_clean, tS_cons, g_none, hold_app, o_move, Nat.reduceLT, move_tmp, movK, look_hit, vroA_int, dropLk, o_bin, nil_int, Bool.false_eq_true, rho_tmp, rho_const, constDV, b_gtr, Int.reduceLT, decide_false, mk_put?_some, tS_nil, hold_app2, w_cond, cd_f, w_exit, Nat.reduceBEq, look_miss, vroA_hsl, Nat.reduceEqDiff, if_false, o_fn, args_cons, args_nil, mk_H, env_cons, if_true, dcl_some, List.all_cons, vfla_sl, List.all_nil, Bool.and_self, List.map_cons, vro_sl, List.map_nil, true_and]) | skip)
  all_goals (first | (refine appFst0 ?_; simp only [hold_app2, mk_called, Pos.isHp, List.filter_cons, Bool.not_false, List.filter_nil, if_true, mk_put?_some, dropLk, Nat.reduceBEq, Pos.atSlot, Bool.or_self, Bool.false_eq_true, if_false, hold_app, tS_cons, g_none, o_assign, Nat.reduceLT, take_tmp, takK, look_miss, look_hit, vroA_hsl, mk_put, vroA_int, tS_nil, w_ret, ret_two, vfla_hsl, vfla_int, and_true, true_and]) | skip)
  all_goals (first | exact hK _ _ (Fr.app [] H _) | exact hK _ _ (Fr.refl _ _) | skip)
end Go.Ab.En

/- EnAB: The engine's laws: a scan where no table is. -/
namespace Go.Ab.En
open Go Go.Conc Go.RowKit Go.Ab
set_option maxRecDepth 10000
theorem pt1 {o : Bool} {c : Nat} {xs : List DV} {r : List DV} : DV.part 1 0 (.tup (.sl o c xs :: r)) = some (.sl o c xs) := _root_.id rfl
theorem appRows0 {H : List HObj} {K : List HObj → DV → Prop} {x : Nat} {a b : Str} {own : Bool} (h : ∀ H' id, Fr [] H H' → K H' (.tup [.hsl id 1 0 0 0, .int .i64 0])) : app SRows0h H [.ptr x 0, .str a, .str b, .sl own 5 []] K := ⟨x, a, b, own, rfl, h⟩
noncomputable def b42 : Code := (Go.Proofs.Tryz.f42.body).getD .skip
theorem hb42 : Go.Proofs.Tryz.f42.body = some b42 := by kernel_rfl
/-- What a scan tells: the first 64 pairs that are seen. -/
def scanE (es : List Ent) (a b : Str) (n : Int) : List Pr := ((visE (rangeE es a b) n).take 64).map fun e => ⟨e.key, e.val⟩
def SScan : Spec := fun H args K => ∃ (E : EngS) (a b : Str) (n : Int), args = [.ptr E.x 0, .str a, .str b, .int .i64 n] ∧ E.At H ∧ E.es.length < 100000000 ∧ Sorted E.es ∧ ∀ H', Fr [] H H' → K H' (.tup [.sl true 2 ((scanE E.es a b (min n E.seq)).map prD), .int .i64 0])
theorem vis_len (es : List Ent) (n : Int) : (visE es n).length ≤ es.length :=
  Nat.le_trans (List.length_filterMap_le _ _) (gE_len es.length es).1
theorem range_sub (es : List Ent) (a b : Str) : (rangeE es a b).Sublist es := (List.takeWhile_sublist _).trans (List.drop_sublist _ _)
def prE (e : Ent) : Pr := ⟨e.key, e.val⟩
def MSc (H : List HObj) (l : List Ent) (m : Nat) (st : St) : Prop := ∃ (i : Nat) (B : List (Nat × Nat × List DV)), i ≤ l.length ∧ m = l.length - i ∧ (B = [] ∨ ∃ g c, B = [(15, g, c)]) ∧
  st = mk 76 [(13, .sl true 2 (((l.take i).take 64).map fun e => prD (prE e))), (57, .sl true 4 (rowD l)), (58, .int .i64 l.length), (59, .int .i64 i)] B H []
set_option maxHeartbeats 4000000 in
theorem rcScan {I : Jd pp} (hI : ∀ w e, I.Ok w e) (hC : RC I 135 SCs) (hB : RC I 100 SBet0) (hR : RC I 102 SHRange) (hV : RC I 103 SVis) : RC I 42 SScan := by
  refine rc_of_code (isObj := isR) (Γ := envOf [(100, SBet0), (99, SRows0h), (102, SHRange), (101, SRows1), (103, SVis)]) (rs := [8, 9]) mixed hI (envOf_rc (by simpa using ⟨hB, rcRows0h hI, hR, rcRows1 hI hC, hV⟩)) Go.Proofs.Tryz.func42 (by kernel_rfl) hb42 Go.Proofs.Tryz.results42 Go.Proofs.Tryz.ntmps42 (by decide) ?_
  rintro H args K ⟨E, a, b, n, rfl, h1, hl, hs, hK⟩
  refine ⟨by simp, rfl, ?_⟩
  unfold b42 Go.Proofs.Tryz.f42
  simp only [List.append_eq, List.cons_append, List.nil_append, Option.getD_some, argSlots, vro_ptr, Nat.zero_add, vro_str, Nat.reduceAdd, vro_int, w_seq, w_region, mk_clean, tS_cons, g_none, hold_app, o_assign, take_const, constDV, Proofs.Tryz.underlying64, cn96, mk_put, dropLk, tS_nil, hold_app2, o_move, Nat.reduceLT, move_tmp, movK, Nat.reduceBEq, look_miss, look_hit, vroA_ptr, vroA_str, o_nilCheck, dnil, rho_tmp, mk_put?_some, o_fieldAddr, fp114_1, o_load, ld_h, h1.top, dlh_some, List.drop_succ_cons, List.drop_zero, la106, lo_ptr, o_fn, args_cons, args_nil, mk_H, env_cons, Nat.reduceEqDiff, if_false, if_true, dcl_some, List.all_cons, vfla_ptr, vfla_str, List.all_nil, Bool.and_self, List.map_cons, List.map_nil, true_and]
  refine appBet0 h1.sheet ?_
  simp only [hold_app2, mk_called, Pos.isHp, List.filter_nil, mk_put?_some, dropLk, hold_app, tS_cons, g_none, o_fn, args_cons, Nat.reduceLT, rho_tmp, Nat.reduceBEq, look_miss, look_hit, args_nil, mk_H, env_cons, Nat.reduceEqDiff, if_false, if_true, dcl_some, List.all_cons, vfla_ptr, vfla_str, vfla_sl, List.all_nil, Bool.and_self, List.map_cons, vro_ptr, vro_str, vro_sl, List.map_nil, true_and]
  refine appRows0 fun H0 id f0 => ?_
  have h2 := h1.fr0 f0
  have pt : DV.part 1 0 (.tup [.hsl id 1 0 0 0, .int .i64 0]) = some (.hsl id 1 0 0 0) := _root_.id rfl
  simp only [hold_app2, mk_called, Pos.isHp, List.filter_nil, mk_put?_some, dropLk, hold_app, tS_cons, g_none, o_move, Nat.reduceLT, move_tmp, movK, look_hit, vroA_tup, List.map_cons, vro_hsl, vro_int, List.map_nil, o_extract, rho_tmp, ex_0, ext_tmp, extK, Nat.reduceBEq, look_miss, ex_1, o_assign, take_tmp, takK, vroA_hsl, mk_put, vroA_int, tS_nil, w_seq, w_region, mk_clean, o_bin, nil_int, Bool.false_eq_true, rho_const, constDV, b_neq, ne_eq, not_true_eq_false, decide_false, w_cond, cd_f, w_skip, vroA_ptr, o_nilCheck, dnil, o_fieldAddr, fp114_3, Nat.zero_add, o_load, ld_h, h2.top, dlh_some, List.drop_succ_cons, List.drop_zero, la110, vro_ptr, lo_ptr, vroA_str, o_fn, args_cons, args_nil, mk_H, env_cons, Nat.reduceEqDiff, if_false, if_true, dcl_some, List.all_cons, vfla_ptr, vfla_str, List.all_nil, Bool.and_self, vro_str, true_and]
  refine appHRange h2.heap hl fun H1 f1 => ?_
  simp only [hold_app2, mk_called, Pos.isHp, List.filter_nil, mk_put?_some, dropLk, hold_app, tS_cons, g_none, bs154_1, isR_eq, beq_self_eq_true, Nat.reduceLT, rho_tmp, look_hit, vro_sl, bsl_t, List.all_cons, vcl_sl, List.length_cons, List.length_nil, Nat.zero_add, vsca_sl, List.all_nil, Bool.and_self, List.flatMap_cons, List.flatMap_nil, List.append_nil, List.map_cons, vro1_sl, List.map_nil, o_append, aph154_154, take_tmp, takK, Nat.reduceBEq, look_miss, vroA_hsl, apdO_h, mk_put, o_fn, args_cons, args_nil, mk_H, env_cons, Nat.reduceEqDiff, if_false, if_true, dcl_some, vfla_hsl, vro_hsl, true_and, ne_eq, newRow_mk, ap_len, List.append_assoc, List.cons_append, List.nil_append, srcC_h Go.Proofs.Tryz.underlying154, ap_get0, schh_some, Nat.reduceMul, Nat.reduceLeDiff, List.drop_zero, List.take_succ_cons, List.take_zero, reduceCtorEq, false_implies, not_false_eq_true, true_implies, not_true_eq_false, and_true]
  intro q hq
  have hrl := (range_sub E.es a b).length_le
  have h3 := h2.fr0 f1
  refine ⟨_, rangeE E.es a b, rfl, .inr ⟨_, q, List.replicate ((q - 1) * 1) .undef, rfl, hq, by simp⟩, hs.sublist (range_sub E.es a b), by omega, fun H2 f2 => ?_⟩
  have h4 := h3.fr0 (Fr.app [] _ _) |>.fr0 f2
  have hm : (if (E.seq : Int) < n then (E.seq : Int) else n) = min n E.seq := by split <;> omega
  simp only [hold_app2, List.drop_zero, List.take_succ_cons, List.take_zero, List.map_cons, vro1_sl, List.map_nil, List.cons_append, List.nil_append, mk_called, Pos.isHp, List.filter_nil, mk_put?_some, dropLk, hold_app, tS_cons, g_none, o_move, Nat.reduceLT, move_tmp, movK, look_hit, vroA_tup, vro_sl, vro_int, o_extract, rho_tmp, ex_0, ext_tmp, extK, Nat.reduceEqDiff, Nat.zero_add, if_false, Nat.reduceBEq, look_miss, ex_1, Pos.atSlot, Bool.or_self, Bool.false_eq_true, o_assign, take_tmp, takK, lkGet, if_true, own_slot, pt1, ownSz_f, reduceCtorEq, un_slot, mk_put, vroA_int, tS_nil, w_seq, w_region, mk_clean, o_bin, nil_int, rho_const, constDV, b_neq, ne_eq, not_true_eq_false, decide_false, w_cond, cd_f, w_skip, take_const, Proofs.Tryz.underlying64, cn96, vroA_ptr, o_nilCheck, dnil, o_fieldAddr, fp114_4, o_load, ld_h, h4.top, dlh_some, List.drop_succ_cons, la3, lo_int, o_min, m_min, hm, o_fn, args_cons, args_nil, mk_H, env_cons, dcl_some, List.all_cons, vfla_sl, vfla_int, List.all_nil, Bool.and_self, true_and]
  refine appVis (hs.sublist (range_sub E.es a b)) (by omega) ?_
  have hvl := vis_len (rangeE E.es a b) (min n E.seq)
  generalize hL : visE (rangeE E.es a b) (min n E.seq) = L at hvl
  have rl : (rowD L).length = L.length := by simp [rowD]
  simp only [hold_app2, mk_called, Pos.isHp, List.filter_nil, mk_put?_some, dropLk, hold_app, tS_cons, g_none, o_len, Nat.reduceLT, rho_tmp, look_hit, dl125, rl, o_move, move_const, constDV, vroA_int, tS_nil, w_block]
  refine w_loop [13, 57, 58, 59] (MSc H2 L) L.length ?_ ?_
  · exact ⟨0, [], by omega, by omega, .inl rfl, by simp only [o_clo, clo_fn, dcl2_some, hold_app, hold_app2, move_tmp, move_const, take_tmp, take_const, rho_tmp, rho_const, mk_put, mk_put?_some, mk_put?_none, mk_setT, mk_newMap, mk_newFun, mk_forget, vro1_bool, vro_bool, vroA_bool, vcl_bool, vsca_bool, vfla_bool, vro1_int, vro_int, vroA_int, vcl_int, vsca_int, vfla_int, vro1_str, vro_str, vroA_str, vcl_str, vsca_str, vfla_str, vro1_sl, vro_sl, vroA_sl, vcl_sl, vsca_sl, vfla_sl, vro1_agg, vro_agg, vroA_agg, vcl_agg, vsca_agg, vfla_agg, List.map_cons, Nat.reduceBEq, vro1_undef, vro_undef, vroA_undef, vcl_undef, vsca_undef, vfla_undef, vro1_fn, vro_fn, vroA_fn, vcl_fn, vsca_fn, vfla_fn, vro1_hsl, vro_hsl, vroA_hsl, vcl_hsl, vsca_hsl, vfla_hsl, look_hit, look_miss, ext_tmp, pk, ex_0, ex_1, ex_2, lo_int, lo_str, lo_bool, lo_map, lo_ptr, lo_agg, lo_sl, lo_hsl, lo_fn, ld_vptr, ld_h, dlh_some, ld_b, dlb_some, st_h, sth_some, st_b, stb_some, onMap_some, bget_nil, bget_cons, bset_nil, bset_cons, List.map_nil, List.take_zero, List.take_nil, putAt_eq, mk_setH, mk_setB, nv_if, bsl_t, bsl_f, apd_own, nc0, nc1, nc2, nc3, nc4, nc5, wrap_i64, wrap_u8, nil_tmp, nil_int, nil_str, nil_bool, nil_ptr, nil_map, nil_sl, b_add, b_sub, b_mul, b_rem, b_quo, b_eql, b_neq, b_lss, b_leq, b_gtr, b_geq, s_eql, s_neq, s_lss, s_geq, s_add, u_not, m_max, m_min, plain_str, plain_int, o_fn, dcl_some, env_cons, args_nil, args_cons]; try rfl⟩
  · rintro m st ⟨i, B, hi, rfl, hB, rfl⟩
    obtain ⟨g, hb2, hb1⟩ := box1 hB
    by_cases e : i < L.length
    · have e1 : (i : Int) < L.length := by omega
      have e2 : (0 : Int) ≤ i := by omega
      have wi : IntKind.i64.wrap ((i : Int) + 1) = ((i + 1 : Nat) : Int) := by rw [wrap_i64 (by omega) (by omega)]; omega
      have hx := rowD_get e
      have hol : (((L.take i).take 64).map fun e => prD (prE e)).length = min 64 i := by simp; omega
      by_cases h64 : i < 64
      · have c1 : ((min 64 i : Nat) : Int) < 64 := by omega
        have hst : (((L.take i).take 64).map fun e => prD (prE e)) ++ [.agg [.str L[i].key, .str L[i].val]] = ((L.take (i + 1)).take 64).map fun e => prD (prE e) := by
          rw [List.take_take, List.take_take, Nat.min_eq_right (by omega), Nat.min_eq_right (by omega), List.take_succ_eq_append_getElem e, List.map_append]; rfl
        simp only [w_seq, w_region, mk_clean, tS_cons, g_none, hold_app, o_bin, nil_tmp, Bool.false_eq_true, Nat.reduceLT, rho_tmp, Nat.reduceBEq, look_miss, look_hit, b_lss, e1, decide_true, mk_put?_some, dropLk, tS_nil, hold_app2, w_cond, cd_t, w_skip, w_block, o_indexAddr, ix125, e2, rl, Int.toNat_natCast, hx, vcl_agg, o_load, ld_vptr, la138, List.length_cons, List.length_nil, Nat.zero_add, Nat.reduceAdd, Nat.reduceLeDiff, List.take_succ_cons, List.take_zero, List.map_cons, vro1_str, vro1_int, vro1_bool, List.map_nil, lo_agg, al138, nv_if, isR_eq, hb2, hb1, if_false, o_store, take_tmp, takK, st_b, bget_cons, bget_nil, if_true, stb_some, Proofs.Tryz.underlying138, Option.isSome_some, cn138, List.all_cons, vsca_str, vsca_int, vsca_bool, List.all_nil, Bool.and_self, putAt_eq, List.nil_append, List.drop_succ_cons, List.drop_nil, List.append_nil, mk_setB, bset_cons, bset_nil, Pos.inBox, List.filter_nil, o_move, move_tmp, movK, Nat.reduceEqDiff, o_len, dl64, hol, Pos.atSlot, Bool.or_self, nil_int, rho_const, constDV, c1, o_fieldAddr, fl138_0, Nat.add_zero, ld_b, dlb_some, List.drop_zero, la9, vro_str, lo_str, fl138_3, bd96, mk_put, bd96_0, vroA_str, bdk_eq, vcl_str, List.cons_append, bd96_1, bd_nil, bs64_1, vro_agg, bsl_f, beq_self_eq_true, o_append, apo64_64, lkGet, own_slot, part_sl, ownSz_t, un_slot, vroA_sl, ap64_64, apd_own, hst, o_assign, Bool.or_true, b_add, wi, vroA_int, mk_forget, true_and]
        refine ⟨by omega, by omega, _, ?_, i + 1, _, by omega, rfl, .inr ⟨_, _, rfl⟩, rfl⟩
        omega
      · have c1 : ¬ ((min 64 i : Nat) : Int) < 64 := by omega
        have hst : (((L.take i).take 64).map fun e => prD (prE e)) = ((L.take (i + 1)).take 64).map fun e => prD (prE e) := by
          rw [List.take_take, List.take_take, Nat.min_eq_left (by omega), Nat.min_eq_left (by omega)]
        simp only [w_seq, w_region, mk_clean, tS_cons, g_none, hold_app, o_bin, nil_tmp, Bool.false_eq_true, Nat.reduceLT, rho_tmp, Nat.reduceBEq, look_miss, look_hit, b_lss, e1, decide_true, mk_put?_some, dropLk, tS_nil, hold_app2, w_cond, cd_t, w_skip, w_block, o_indexAddr, ix125, e2, rl, Int.toNat_natCast, hx, vcl_agg, o_load, ld_vptr, la138, List.length_cons, List.length_nil, Nat.zero_add, Nat.reduceAdd, Nat.reduceLeDiff, List.take_succ_cons, List.take_zero, List.map_cons, vro1_str, vro1_int, vro1_bool, List.map_nil, lo_agg, al138, nv_if, isR_eq, hb2, hb1, if_false, o_store, take_tmp, takK, st_b, bget_cons, bget_nil, if_true, stb_some, Proofs.Tryz.underlying138, Option.isSome_some, cn138, List.all_cons, vsca_str, vsca_int, vsca_bool, List.all_nil, Bool.and_self, putAt_eq, List.nil_append, List.drop_succ_cons, List.drop_nil, List.append_nil, mk_setB, bset_cons, bset_nil, Pos.inBox, List.filter_nil, o_move, move_tmp, movK, Nat.reduceEqDiff, o_len, dl64, hol, Pos.atSlot, Bool.or_self, nil_int, rho_const, constDV, c1, decide_false, cd_f, b_add, wi, vroA_int, mk_forget, true_and]
        rw [hst]
        refine ⟨_, ?_, i + 1, _, by omega, rfl, .inr ⟨_, _, rfl⟩, rfl⟩
        omega
    · obtain rfl : i = L.length := by omega
      have e1 : ¬ (L.length : Int) < L.length := by omega
      simp only [w_seq, w_region, mk_clean, tS_cons, g_none, hold_app, o_bin, nil_tmp, Bool.false_eq_true, Nat.reduceLT, rho_tmp, Nat.reduceBEq, look_miss, look_hit, b_lss, e1, decide_false, mk_put?_some, dropLk, tS_nil, hold_app2, w_cond, cd_f, w_exit, o_move, move_tmp, movK, Nat.reduceEqDiff, if_false, o_assign, take_tmp, takK, lkGet, if_true, own_slot, part_sl, ownSz_t, un_slot, vroA_sl, mk_put, Pos.atSlot, Bool.or_self, take_const, constDV, w_ret, ret_two, vfla_sl, vfla_int, and_true, true_and]
      have hh := hK H2 (f0.trans (f1.trans ((Fr.app [] _ _).trans f2)) |>.mono (by simp))
      rw [List.take_length]
      have hsc : (scanE E.es a b (min n E.seq)).map prD = (L.take 64).map fun e => prD (prE e) := by
        unfold scanE; rw [hL, List.map_map]; rfl
      rw [hsc] at hh
      exact hh
end Go.Ab.En
