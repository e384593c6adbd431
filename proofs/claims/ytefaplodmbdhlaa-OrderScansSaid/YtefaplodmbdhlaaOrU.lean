/- A part of the proofs that a law function returns true at every input; it has no condition of its own. -/
import Derived.Test.YtefaplodmbdhlaaOrS
set_option linter.unusedSimpArgs false
set_option linter.unusedVariables false
/- OrU: OrderTurns: the walk. -/
namespace Go.Ab.Or
open Go Go.Conc Go.RowKit Go.Ab
set_option maxRecDepth 10000
def KT : List HObj → DV → Prop := fun _ v => v = .bool true
def isO28 : ObjT := fun t => t == 28
theorem isO28_eq {t : TypeId} : isO28 t = (t == 28) := _root_.id rfl
def lowD (a : Int) : DC := ⟨0, 1, a, .sl false 5 (List.map .agg (List.map RD.cells [])), .sl false 3 (List.map wrD [wK])⟩
def hiD (b : Int) (i : Nat) : DC := ⟨1, 0, b, .hsl i 5 0 1, .sl false 3 (List.map wrD [])⟩
def hR (ps : List (Str × Str)) : RD := ⟨0, true, [], [], ps⟩
theorem lowDW (H : List HObj) (a : Int) : DW H (lowD a) [] [wK] := ⟨.inl rfl, rfl, by simp, by simp, by simp⟩
def hC (o : Bool) (ps : List (Str × Str)) : List DV := [.int .i64 0, .bool true, .str [], .str [], .sl o 2 (ps.map prD)]
theorem hiDW {H : List HObj} (b : Int) (ps : List (Str × Str)) {i : Nat} {o : Bool} (h : H[i]? = some (.cells (hC o ps))) (hp : ps.length < 4611686018427387904) : DW H (hiD b i) [hR ps] [] := by
  refine ⟨.inr ⟨i, 0, _, rfl, h, fun j r hr => ?_⟩, rfl, by simp, by simp, by simpa [hR] using hp⟩
  match j, hr with
  | 0, hr => cases hr; exact ⟨hC o ps, [], by simp, by simp [hC, RD.cells, hR, vro1_int, vro1_bool, vro1_str, vro1_sl]⟩
theorem i01 : idxI [0, 1] 0 = 0 := by decide
theorem i11 : idxI [0, 1] 1 = 1 := by decide
theorem cmp_hl (a b : Int) (i : Nat) : (cmpD [0, 1] (hiD b i) (lowD a) < 0) = (b ≤ a) := by
  simp only [cmpD, hiD, lowD, i01, i11, cmpI, eq_iff_iff]
  by_cases h : b < a
  · simp [h]; omega
  · by_cases h2 : a < b
    · simp [h, h2]; try omega
    · have : b = a := by omega
      subst this; simp
theorem cmp_lh (a b : Int) (i : Nat) : (cmpD [0, 1] (lowD a) (hiD b i) < 0) = (a < b) := by
  simp only [cmpD, hiD, lowD, i01, i11, cmpI, eq_iff_iff]
  by_cases h : a < b
  · simp [h]
  · by_cases h2 : b < a
    · simp [h, h2]; try omega
    · have : b = a := by omega
      subst this; simp
noncomputable def b4 : Code := (Go.Proofs.Try.f4.body).getD .skip
theorem hb4 : Go.Proofs.Try.f4.body = some b4 := by kernel_rfl
set_option maxHeartbeats 8000000 in
theorem law4 {N0 : Nat} {w0 : World} {d : Nat} {G : Gh} {w : World} {vs : Array Value} (t u : Int) (sees : Bool) (ht0 : 0 ≤ t) (ht : t < 256) (hu0 : 0 ≤ u) (hu : u < 256) (hW : WRel N0 w0 G w []) (hF : Fits G w [.int .u8 t, .int .u8 u, .bool sees] vs) :
    Calls pp 4 vs w fun e w' => ∃ v, e = .returned v ∧ Back N0 w0 d G w KT v w' := by
  have hI : ∀ w e, (loneJ pp).Ok w e := fun _ _ => trivial
  refine calls_of_code (isObj := isO28) (Γ := envOf [(6, SKn), (8, SChain), (9, SSort), (10, SSDs), (7, SExp)]) (rs := [6]) mixed (envOf_rc (by simpa using ⟨rcKn, rcChain hI, rcSort hI, rcSDs hI, rcExp⟩)) Go.Proofs.Try.func4 hb4 Go.Proofs.Try.results4 Go.Proofs.Try.ntmps4 (by decide) (args := [.int .u8 t, .int .u8 u, .bool sees]) (by simp) rfl ?_ hW hF
  unfold b4 Go.Proofs.Try.f4
  obtain ⟨a, m1⟩ : ∃ a, IntKind.i64.wrap (t.tmod 5) = a := ⟨_, rfl⟩
  obtain ⟨b, m2⟩ : ∃ b, IntKind.i64.wrap (u.tmod 5) = b := ⟨_, rfl⟩
  simp only [Option.getD_some, argSlots, vro_int, Nat.zero_add, Nat.reduceAdd, vro_bool, w_seq, w_region, mk_clean, tS_cons, g_none, hold_app, o_assign, take_const, constDV, mk_put, dropLk, tS_nil, hold_app2, o_fn, args_nil, mk_H, env_cons, Nat.reduceEqDiff, if_false, if_true, dcl_some, List.all_nil, List.map_nil, true_and]
  refine ⟨rfl, fun H1 hF1 => ?_⟩
  cases sees
  · simp only [hold_app2, mk_called, Pos.isHp, List.filter_nil, mk_put?_some, dropLk, hold_app, tS_cons, g_none, o_un, Nat.reduceLT, rho_tmp, look_hit, u_not, Bool.not_true, tS_nil, w_cond, cd_f, w_skip, w_seq, w_region, mk_clean, o_move, move_tmp, movK, Nat.reduceBEq, look_miss, vroA_int, o_bin, nil_int, Bool.false_eq_true, rho_const, constDV, b_rem, ne_eq, Int.reduceEq, not_false_eq_true, o_conv, cv5_3, m1, m2, o_assign, take_tmp, takK, mk_put, bd26, bd26_0, take_const, bdk_eq, vcl_str, List.length_cons, List.length_nil, Nat.zero_add, Nat.reduceAdd, Nat.reduceLeDiff, List.all_cons, vsca_str, List.all_nil, Bool.and_self, putAt_eq, List.take_zero, List.nil_append, List.drop_succ_cons, List.drop_zero, List.cons_append, bd26_2, List.take_succ_cons, List.drop_nil, List.append_nil, bd_nil, bs27_1, isO28_eq, vro_agg, List.map_cons, vro1_str, vro1_bool, List.map_nil, bsl_f, vcl_agg, beq_self_eq_true, vsca_bool, bd30, bd30_1, vcl_int, vsca_int, bd30_2, bd30_4, vcl_sl, vsca_sl, al30, nv_if, bgen_eq, bget_nil, bset_nil, if_false, o_store, vro1_int, vro1_sl, st_b, bget_cons, if_true, stb_some, Proofs.Try.underlying30, Option.isSome_some, cn30, mk_setB, bset_cons, Pos.inBox, bd33, bd33_1, vcl_bool, bs28_1, bsl_t, List.flatMap_cons, List.flatMap_nil, bd30_0, bd30_3, vroA_hsl, vcl_hsl, vsca_hsl, ap_len, List.append_assoc, Nat.reduceEqDiff, vro1_hsl, vroA_bool, o_fn, args_cons, args_nil, mk_H, env_cons, dcl_some, vfla_int, vro_int, true_and]
    obtain ⟨HA, hHA⟩ : ∃ HA, HA = H1 ++ [HObj.cells (hC false [])] := ⟨_, rfl⟩
    have hid : HA[H1.length]? = some (.cells (hC false [])) := by rw [hHA, ap_get0]
    have hFA : Fr [] HA [] := by rw [hHA]; exact hF1.trans (Fr.app _ _)
    simp only [hC, prD, List.map_nil, List.map_cons] at hHA
    rw [← hHA]
    refine ⟨rfl, ?_⟩
    simp only [hold_app2, mk_called, Pos.isHp, List.filter_nil, mk_put?_some, dropLk, hold_app, tS_cons, g_none, al40, nv_if, isO28_eq, Nat.reduceBEq, Bool.false_eq_true, ap_len, List.length_cons, List.length_nil, Nat.zero_add, Nat.reduceAdd, vcl_agg, List.append_assoc, List.cons_append, List.nil_append, bgen_eq, bget_cons, Nat.reduceEqDiff, bget_nil, if_false, bset_cons, bset_nil, o_store, Nat.reduceLT, take_tmp, takK, look_miss, look_hit, List.map_cons, vro1_sl, List.map_nil, rho_tmp, st_b, if_true, stb_some, Proofs.Try.underlying40, Option.isSome_some, cn40, List.all_cons, vsca_sl, List.all_nil, Bool.and_self, Nat.reduceLeDiff, putAt_eq, List.take_zero, List.drop_succ_cons, List.drop_nil, List.append_nil, mk_setB, Pos.inBox, tS_nil, w_seq, w_region, mk_clean, o_load, ld_b, dlb_some, List.drop_zero, la40, List.take_succ_cons, lo_agg, la30, vro1_int, vro1_hsl, bs24_2, vro_agg, bsl_f, beq_self_eq_true, vsca_int, vsca_hsl, o_fn, args_cons, args_nil, mk_H, env_cons, dcl_some, vfla_agg, vfla_sl, vro_sl, true_and]
    have hFB := Fr.app HA [HObj.cells [DV.bool true, DV.bool false], HObj.cells [DV.bool true, DV.bool true]]
    have hlat : Lat2 (HA ++ [HObj.cells [DV.bool true, DV.bool false], HObj.cells [DV.bool true, DV.bool true]]) HA.length (HA.length + 1) := ⟨ap_get0, ap_get⟩
    generalize HA ++ [HObj.cells [DV.bool true, DV.bool false], HObj.cells [DV.bool true, DV.bool true]] = HB at hFB hlat ⊢
    have hidB : HB[H1.length]? = some (.cells (hC false [])) := hFB.get hid (by simp)
    have hl := fun H => lowDW H a
    have hh := fun H h => hiDW (H := H) b [] (o := false) (i := H1.length) h (by simp)
    refine .inl ⟨_, _, _, lowD a, hiD b H1.length, rfl, (hl []).ok, (hh _ hidB).ok, hlat, fun H2 id2 rest2 hF2 hid2 => ?_⟩
    simp only [hold_app2, mk_called, Pos.isHp, List.filter_nil, mk_put?_some, dropLk, hold_app, tS_cons, g_none, o_assign, Nat.reduceLT, take_tmp, takK, look_hit, vroA_hsl, mk_put, tS_nil, w_seq, w_region, mk_clean, o_load, rho_tmp, Nat.reduceBEq, look_miss, ld_b, bget_cons, Nat.reduceEqDiff, bget_nil, if_true, if_false, dlb_some, List.drop_zero, la40, List.length_cons, List.length_nil, Nat.zero_add, Nat.reduceLeDiff, List.take_succ_cons, List.take_zero, List.map_cons, vro1_sl, List.map_nil, lo_agg, la30, Nat.reduceAdd, vro1_int, vro1_hsl, bs24_2, isO28_eq, vro_agg, bsl_f, List.all_cons, vcl_agg, beq_self_eq_true, vsca_int, vsca_hsl, vsca_sl, List.all_nil, Bool.and_self, o_fn, args_cons, args_nil, mk_H, env_cons, dcl_some, vfla_agg, vfla_sl, vro_sl, true_and]
    refine .inl ⟨_, _, _, hiD b H1.length, lowD a, rfl, (hh _ hidB).ok, (hl []).ok, ⟨hF2.get hlat.1 (by simp), hF2.get hlat.2 (by simp)⟩, fun H3 id3 rest3 hF3 hid3 => ?_⟩
    have hid2' := hF3.get hid2 (by simp)
    have hh3 := hh H3 (hF3.get (hF2.get hidB (by simp)) (by simp))
    by_cases c : a < b
    · rw [if_neg (by rw [cmp_hl]; omega)] at hid2'
      rw [if_pos (by rw [cmp_lh]; omega)] at hid3
      have r2 := rows2 (hl []).ok hh3.ok hid2'
      have r3 := rows2 (hl []).ok hh3.ok hid3
      simp only [hold_app2, mk_called, Pos.isHp, List.filter_nil, mk_put?_some, dropLk, hold_app, tS_cons, g_none, o_assign, Nat.reduceLT, take_tmp, takK, look_hit, vroA_hsl, mk_put, tS_nil, w_seq, w_region, mk_clean, o_move, move_tmp, movK, Nat.reduceBEq, look_miss, o_fn, args_cons, rho_tmp, args_nil, mk_H, env_cons, Nat.reduceEqDiff, if_false, if_true, dcl_some, List.all_cons, vfla_hsl, List.all_nil, Bool.and_self, List.map_cons, vro_hsl, List.map_nil, true_and]
      refine ⟨_, _, [lowD a, hiD b H1.length], rfl, r2, r3, by simp, ?_, ?_⟩
      · simp only [List.forall_mem_cons]
        exact ⟨⟨_, _, hl H3⟩, ⟨_, _, hh3⟩, by simp⟩
      simp only [hold_app2, mk_called, Pos.isHp, List.filter_nil, mk_put?_some, dropLk, hold_app, tS_cons, g_none, o_move, Nat.reduceLT, move_tmp, movK, look_hit, vroA_bool, g_some, gq_succ, gq_zero, gs1_eq, gs2_tt, mk_setT, Nat.reduceBEq, look_miss, vroA_hsl, o_fn, args_cons, rho_tmp, args_nil, mk_H, env_cons, Nat.reduceEqDiff, if_true, if_false, dcl_some, List.all_cons, vfla_hsl, List.all_nil, Bool.and_self, List.map_cons, vro_hsl, List.map_nil, true_and]
      refine ⟨_, [(lowD a, [], [wK]), (hiD b H1.length, [hR []], [])], rfl, ⟨r2, ?_, by simp, by simp [wsum], ?_⟩, fun H4 hF4 => ?_⟩
      · simp only [List.forall_mem_cons]
        exact ⟨hl H3, hh3, by simp⟩
      · simp only [List.forall_mem_cons]
        exact ⟨by simp [wK, maxLen], by simp, by simp⟩
      have hx : explF noF [(lowD a, [], [wK]), (hiD b H1.length, [hR []], [])] = false := by
        have h1 : updF noF 0 [wK] 0 = some [([107], [118])] := by decide
        simp [explF, lowD, hR, readF, h1, pairsF, namesF, inR, Op.bytesLess, getF]
      simp only [hx, hold_app2, mk_called, Pos.isHp, List.filter_nil, mk_put?_some, dropLk, hold_app, tS_cons, g_some, gq_succ, gq_zero, Nat.reduceLT, gs1_eq, Nat.reduceBEq, look_miss, look_hit, gs2_tt, mk_setT, o_move, move_tmp, movK, vroA_bool, vroA_int, o_bin, nil_tmp, Bool.false_eq_true, rho_tmp, b_lss, c, decide_true, t_eql Go.Proofs.Try.underlying4, g_none, o_pick, rho_const, constDV, pk, if_true, o_assign, take_tmp, takK, mk_put, tS_nil, w_ret, ret_one, vfla_bool, true_and, if_false]
      exact rfl
    · rw [if_pos (by rw [cmp_hl]; omega)] at hid2'
      rw [if_neg (by rw [cmp_lh]; omega)] at hid3
      have r2 := rows2 hh3.ok (hl []).ok hid2'
      have r3 := rows2 hh3.ok (hl []).ok hid3
      simp only [hold_app2, mk_called, Pos.isHp, List.filter_nil, mk_put?_some, dropLk, hold_app, tS_cons, g_none, o_assign, Nat.reduceLT, take_tmp, takK, look_hit, vroA_hsl, mk_put, tS_nil, w_seq, w_region, mk_clean, o_move, move_tmp, movK, Nat.reduceBEq, look_miss, o_fn, args_cons, rho_tmp, args_nil, mk_H, env_cons, Nat.reduceEqDiff, if_false, if_true, dcl_some, List.all_cons, vfla_hsl, List.all_nil, Bool.and_self, List.map_cons, vro_hsl, List.map_nil, true_and]
      refine ⟨_, _, [hiD b H1.length, lowD a], rfl, r2, r3, by simp, ?_, ?_⟩
      · simp only [List.forall_mem_cons]
        exact ⟨⟨_, _, hh3⟩, ⟨_, _, hl H3⟩, by simp⟩
      simp only [hold_app2, mk_called, Pos.isHp, List.filter_nil, mk_put?_some, dropLk, hold_app, tS_cons, g_none, o_move, Nat.reduceLT, move_tmp, movK, look_hit, vroA_bool, g_some, gq_succ, gq_zero, gs1_eq, gs2_tt, mk_setT, Nat.reduceBEq, look_miss, vroA_hsl, o_fn, args_cons, rho_tmp, args_nil, mk_H, env_cons, Nat.reduceEqDiff, if_true, if_false, dcl_some, List.all_cons, vfla_hsl, List.all_nil, Bool.and_self, List.map_cons, vro_hsl, List.map_nil, true_and]
      refine ⟨_, [(hiD b H1.length, [hR []], []), (lowD a, [], [wK])], rfl, ⟨r2, ?_, by simp, by simp [wsum], ?_⟩, fun H4 hF4 => ?_⟩
      · simp only [List.forall_mem_cons]
        exact ⟨hh3, hl H3, by simp⟩
      · simp only [List.forall_mem_cons]
        exact ⟨by simp, by simp [wK, maxLen], by simp⟩
      have hx : explF noF [(hiD b H1.length, [hR []], []), (lowD a, [], [wK])] = true := by
        simp [explF, hR, readF, noF, pairsF]
      simp only [hx, hold_app2, mk_called, Pos.isHp, List.filter_nil, mk_put?_some, dropLk, hold_app, tS_cons, g_some, gq_succ, gq_zero, Nat.reduceLT, gs1_eq, Nat.reduceBEq, look_miss, look_hit, gs2_tt, mk_setT, o_move, move_tmp, movK, vroA_bool, vroA_int, o_bin, nil_tmp, Bool.false_eq_true, rho_tmp, b_lss, c, decide_false, t_eql Go.Proofs.Try.underlying4, beq_self_eq_true, g_none, o_pick, rho_const, constDV, pk, if_true, o_assign, take_tmp, takK, mk_put, tS_nil, w_ret, ret_one, vfla_bool, true_and, if_false]
      exact rfl
  · simp only [hold_app2, mk_called, Pos.isHp, List.filter_nil, mk_put?_some, dropLk, hold_app, tS_cons, g_none, o_un, Nat.reduceLT, rho_tmp, look_hit, u_not, Bool.not_true, tS_nil, w_cond, cd_f, w_skip, w_seq, w_region, mk_clean, o_move, move_tmp, movK, Nat.reduceBEq, look_miss, vroA_int, o_bin, nil_int, Bool.false_eq_true, rho_const, constDV, b_rem, ne_eq, Int.reduceEq, not_false_eq_true, o_conv, cv5_3, m1, m2, o_assign, take_tmp, takK, mk_put, bd26, bd26_0, take_const, bdk_eq, vcl_str, List.length_cons, List.length_nil, Nat.zero_add, Nat.reduceAdd, Nat.reduceLeDiff, List.all_cons, vsca_str, List.all_nil, Bool.and_self, putAt_eq, List.take_zero, List.nil_append, List.drop_succ_cons, List.drop_zero, List.cons_append, bd26_2, List.take_succ_cons, List.drop_nil, List.append_nil, bd_nil, bs27_1, isO28_eq, vro_agg, List.map_cons, vro1_str, vro1_bool, List.map_nil, bsl_f, vcl_agg, beq_self_eq_true, vsca_bool, bd30, bd30_1, vcl_int, vsca_int, bd30_2, bd30_4, vcl_sl, vsca_sl, al30, nv_if, bgen_eq, bget_nil, bset_nil, if_false, o_store, vro1_int, vro1_sl, st_b, bget_cons, if_true, stb_some, Proofs.Try.underlying30, Option.isSome_some, cn30, mk_setB, bset_cons, Pos.inBox, bd33, bd33_1, vcl_bool, bs28_1, bsl_t, List.flatMap_cons, List.flatMap_nil, bd30_0, bd30_3, vroA_hsl, vcl_hsl, vsca_hsl, ap_len, List.append_assoc, Nat.reduceEqDiff, vro1_hsl, vroA_bool, cd_t, o_fieldAddr, fl30_3, o_load, ld_b, dlb_some, la28, vro_hsl, lo_hsl, bd35, bd35_0, bd35_1, bs31_1, o_indexAddr, ixh28, Int.reduceLE, nc1, Int.reduceLT, Int.reduceToNat, Nat.zero_mul, Nat.add_zero, fp33_4, st_h, ap_get0, sth_some, Proofs.Try.underlying31, cn31, mk_setH, ap_set0, Pos.inHp, o_fn, args_cons, args_nil, mk_H, env_cons, dcl_some, vfla_int, vro_int, true_and]
    obtain ⟨HA, hHA⟩ : ∃ HA, HA = H1 ++ [HObj.cells (hC true [([107], [118])])] := ⟨_, rfl⟩
    have hid : HA[H1.length]? = some (.cells (hC true [([107], [118])])) := by rw [hHA, ap_get0]
    have hFA : Fr [] HA [] := by rw [hHA]; exact hF1.trans (Fr.app _ _)
    simp only [hC, prD, List.map_nil, List.map_cons] at hHA
    rw [← hHA]
    refine ⟨rfl, ?_⟩
    simp only [hold_app2, mk_called, Pos.isHp, List.filter_nil, mk_put?_some, dropLk, hold_app, tS_cons, g_none, al40, nv_if, isO28_eq, Nat.reduceBEq, Bool.false_eq_true, ap_len, List.length_cons, List.length_nil, Nat.zero_add, Nat.reduceAdd, vcl_agg, List.append_assoc, List.cons_append, List.nil_append, bgen_eq, bget_cons, Nat.reduceEqDiff, bget_nil, if_false, bset_cons, bset_nil, o_store, Nat.reduceLT, take_tmp, takK, look_miss, look_hit, List.map_cons, vro1_sl, List.map_nil, rho_tmp, st_b, if_true, stb_some, Proofs.Try.underlying40, Option.isSome_some, cn40, List.all_cons, vsca_sl, List.all_nil, Bool.and_self, Nat.reduceLeDiff, putAt_eq, List.take_zero, List.drop_succ_cons, List.drop_nil, List.append_nil, mk_setB, Pos.inBox, tS_nil, w_seq, w_region, mk_clean, o_load, ld_b, dlb_some, List.drop_zero, la40, List.take_succ_cons, lo_agg, la30, vro1_int, vro1_hsl, bs24_2, vro_agg, bsl_f, beq_self_eq_true, vsca_int, vsca_hsl, o_fn, args_cons, args_nil, mk_H, env_cons, dcl_some, vfla_agg, vfla_sl, vro_sl, true_and]
    have hFB := Fr.app HA [HObj.cells [DV.bool true, DV.bool false], HObj.cells [DV.bool true, DV.bool true]]
    have hlat : Lat2 (HA ++ [HObj.cells [DV.bool true, DV.bool false], HObj.cells [DV.bool true, DV.bool true]]) HA.length (HA.length + 1) := ⟨ap_get0, ap_get⟩
    generalize HA ++ [HObj.cells [DV.bool true, DV.bool false], HObj.cells [DV.bool true, DV.bool true]] = HB at hFB hlat ⊢
    have hidB : HB[H1.length]? = some (.cells (hC true [([107], [118])])) := hFB.get hid (by simp)
    have hl := fun H => lowDW H a
    have hh := fun H h => hiDW (H := H) b [([107], [118])] (o := true) (i := H1.length) h (by simp)
    refine .inl ⟨_, _, _, lowD a, hiD b H1.length, rfl, (hl []).ok, (hh _ hidB).ok, hlat, fun H2 id2 rest2 hF2 hid2 => ?_⟩
    simp only [hold_app2, mk_called, Pos.isHp, List.filter_nil, mk_put?_some, dropLk, hold_app, tS_cons, g_none, o_assign, Nat.reduceLT, take_tmp, takK, look_hit, vroA_hsl, mk_put, tS_nil, w_seq, w_region, mk_clean, o_load, rho_tmp, Nat.reduceBEq, look_miss, ld_b, bget_cons, Nat.reduceEqDiff, bget_nil, if_true, if_false, dlb_some, List.drop_zero, la40, List.length_cons, List.length_nil, Nat.zero_add, Nat.reduceLeDiff, List.take_succ_cons, List.take_zero, List.map_cons, vro1_sl, List.map_nil, lo_agg, la30, Nat.reduceAdd, vro1_int, vro1_hsl, bs24_2, isO28_eq, vro_agg, bsl_f, List.all_cons, vcl_agg, beq_self_eq_true, vsca_int, vsca_hsl, vsca_sl, List.all_nil, Bool.and_self, o_fn, args_cons, args_nil, mk_H, env_cons, dcl_some, vfla_agg, vfla_sl, vro_sl, true_and]
    refine .inl ⟨_, _, _, hiD b H1.length, lowD a, rfl, (hh _ hidB).ok, (hl []).ok, ⟨hF2.get hlat.1 (by simp), hF2.get hlat.2 (by simp)⟩, fun H3 id3 rest3 hF3 hid3 => ?_⟩
    have hid2' := hF3.get hid2 (by simp)
    have hh3 := hh H3 (hF3.get (hF2.get hidB (by simp)) (by simp))
    by_cases c : a < b
    · rw [if_neg (by rw [cmp_hl]; omega)] at hid2'
      rw [if_pos (by rw [cmp_lh]; omega)] at hid3
      have r2 := rows2 (hl []).ok hh3.ok hid2'
      have r3 := rows2 (hl []).ok hh3.ok hid3
      simp only [hold_app2, mk_called, Pos.isHp, List.filter_nil, mk_put?_some, dropLk, hold_app, tS_cons, g_none, o_assign, Nat.reduceLT, take_tmp, takK, look_hit, vroA_hsl, mk_put, tS_nil, w_seq, w_region, mk_clean, o_move, move_tmp, movK, Nat.reduceBEq, look_miss, o_fn, args_cons, rho_tmp, args_nil, mk_H, env_cons, Nat.reduceEqDiff, if_false, if_true, dcl_some, List.all_cons, vfla_hsl, List.all_nil, Bool.and_self, List.map_cons, vro_hsl, List.map_nil, true_and]
      refine ⟨_, _, [lowD a, hiD b H1.length], rfl, r2, r3, by simp, ?_, ?_⟩
      · simp only [List.forall_mem_cons]
        exact ⟨⟨_, _, hl H3⟩, ⟨_, _, hh3⟩, by simp⟩
      simp only [hold_app2, mk_called, Pos.isHp, List.filter_nil, mk_put?_some, dropLk, hold_app, tS_cons, g_none, o_move, Nat.reduceLT, move_tmp, movK, look_hit, vroA_bool, g_some, gq_succ, gq_zero, gs1_eq, gs2_tt, mk_setT, Nat.reduceBEq, look_miss, vroA_hsl, o_fn, args_cons, rho_tmp, args_nil, mk_H, env_cons, Nat.reduceEqDiff, if_true, if_false, dcl_some, List.all_cons, vfla_hsl, List.all_nil, Bool.and_self, List.map_cons, vro_hsl, List.map_nil, true_and]
      refine ⟨_, [(lowD a, [], [wK]), (hiD b H1.length, [hR [([107], [118])]], [])], rfl, ⟨r2, ?_, by simp, by simp [wsum], ?_⟩, fun H4 hF4 => ?_⟩
      · simp only [List.forall_mem_cons]
        exact ⟨hl H3, hh3, by simp⟩
      · simp only [List.forall_mem_cons]
        exact ⟨by simp [wK, maxLen], by simp, by simp⟩
      have hx : explF noF [(lowD a, [], [wK]), (hiD b H1.length, [hR [([107], [118])]], [])] = true := by
        have h1 : updF noF 0 [wK] 0 = some [([107], [118])] := by decide
        simp [explF, lowD, hR, readF, h1, pairsF, namesF, inR, Op.bytesLess, getF]
      simp only [hx, hold_app2, mk_called, Pos.isHp, List.filter_nil, mk_put?_some, dropLk, hold_app, tS_cons, g_some, gq_succ, gq_zero, Nat.reduceLT, gs1_eq, Nat.reduceBEq, look_miss, look_hit, gs2_tt, mk_setT, o_move, move_tmp, movK, vroA_bool, vroA_int, o_bin, nil_tmp, Bool.false_eq_true, rho_tmp, b_lss, c, decide_true, t_eql Go.Proofs.Try.underlying4, beq_self_eq_true, g_none, o_pick, rho_const, constDV, pk, if_true, o_assign, take_tmp, takK, mk_put, tS_nil, w_ret, ret_one, vfla_bool, true_and, if_false]
      exact rfl
    · rw [if_pos (by rw [cmp_hl]; omega)] at hid2'
      rw [if_neg (by rw [cmp_lh]; omega)] at hid3
      have r2 := rows2 hh3.ok (hl []).ok hid2'
      have r3 := rows2 hh3.ok (hl []).ok hid3
      simp only [hold_app2, mk_called, Pos.isHp, List.filter_nil, mk_put?_some, dropLk, hold_app, tS_cons, g_none, o_assign, Nat.reduceLT, take_tmp, takK, look_hit, vroA_hsl, mk_put, tS_nil, w_seq, w_region, mk_clean, o_move, move_tmp, movK, Nat.reduceBEq, look_miss, o_fn, args_cons, rho_tmp, args_nil, mk_H, env_cons, Nat.reduceEqDiff, if_false, if_true, dcl_some, List.all_cons, vfla_hsl, List.all_nil, Bool.and_self, List.map_cons, vro_hsl, List.map_nil, true_and]
      refine ⟨_, _, [hiD b H1.length, lowD a], rfl, r2, r3, by simp, ?_, ?_⟩
      · simp only [List.forall_mem_cons]
        exact ⟨⟨_, _, hh3⟩, ⟨_, _, hl H3⟩, by simp⟩
      simp only [hold_app2, mk_called, Pos.isHp, List.filter_nil, mk_put?_some, dropLk, hold_app, tS_cons, g_none, o_move, Nat.reduceLT, move_tmp, movK, look_hit, vroA_bool, g_some, gq_succ, gq_zero, gs1_eq, gs2_tt, mk_setT, Nat.reduceBEq, look_miss, vroA_hsl, o_fn, args_cons, rho_tmp, args_nil, mk_H, env_cons, Nat.reduceEqDiff, if_true, if_false, dcl_some, List.all_cons, vfla_hsl, List.all_nil, Bool.and_self, List.map_cons, vro_hsl, List.map_nil, true_and]
      refine ⟨_, [(hiD b H1.length, [hR [([107], [118])]], []), (lowD a, [], [wK])], rfl, ⟨r2, ?_, by simp, by simp [wsum], ?_⟩, fun H4 hF4 => ?_⟩
      · simp only [List.forall_mem_cons]
        exact ⟨hh3, hl H3, by simp⟩
      · simp only [List.forall_mem_cons]
        exact ⟨by simp, by simp [wK, maxLen], by simp⟩
      have hx : explF noF [(hiD b H1.length, [hR [([107], [118])]], []), (lowD a, [], [wK])] = false := by
        simp [explF, hR, readF, noF, pairsF]
      simp only [hx, hold_app2, mk_called, Pos.isHp, List.filter_nil, mk_put?_some, dropLk, hold_app, tS_cons, g_some, gq_succ, gq_zero, Nat.reduceLT, gs1_eq, Nat.reduceBEq, look_miss, look_hit, gs2_tt, mk_setT, o_move, move_tmp, movK, vroA_bool, vroA_int, o_bin, nil_tmp, Bool.false_eq_true, rho_tmp, b_lss, c, decide_false, t_eql Go.Proofs.Try.underlying4, g_none, o_pick, rho_const, constDV, pk, if_true, o_assign, take_tmp, takK, mk_put, tS_nil, w_ret, ret_one, vfla_bool, true_and, if_false]
      exact rfl
end Go.Ab.Or
