/- A part of the proofs that a law function returns true at every input; it has no condition of its own. -/
import Derived.Test.YtefaplodmbdhlaaOrE
set_option linter.unusedSimpArgs false
set_option linter.unusedVariables false
/- OrF: The order laws: deals sorted by the levels. -/
namespace Go.Ab.Or
open Go Go.Conc Go.RowKit Go.Ab
set_option maxRecDepth 10000
noncomputable def b9 : Code := (Go.Proofs.Try.f9.body).getD .skip
theorem hb9 : Go.Proofs.Try.f9.body = some b9 := by kernel_rfl
def isO9 : ObjT := fun t => t == 57 || t == 60
theorem isO9_eq {t : TypeId} : isO9 t = (t == 57 || t == 60) := _root_.id rfl
def SSort2 : Spec := fun H args K => ∃ i j own a b, args = [lat2 i j, .sl own 5 [.agg (DC.cells a), .agg (DC.cells b)]] ∧ a.ok ∧ b.ok ∧ Lat2 H i j ∧
  ∀ H' id rest, Fr H H' [] → H'[id]? = some (.cells (if cmpD [0, 1] b a < 0 then b.cells ++ (a.cells ++ rest) else a.cells ++ (b.cells ++ rest))) → K H' (.hsl id 5 0 2)
def SSort3 : Spec := fun H args K => ∃ i j own a b c, args = [lat2 i j, .sl own 5 [.agg (DC.cells a), .agg (DC.cells b), .agg (DC.cells c)]] ∧ a.ok ∧ b.ok ∧ c.ok ∧ Lat2 H i j ∧ ¬ cmpD [0, 1] b a < 0 ∧ cmpD [0, 1] c b < 0 ∧ cmpD [0, 1] c a < 0 ∧
  ∀ H' id rest, Fr H H' [] → H'[id]? = some (.cells (c.cells ++ (a.cells ++ (b.cells ++ rest)))) → K H' (.hsl id 5 0 3)
def SSort : Spec := fun H args K => SSort2 H args K ∨ SSort3 H args K
set_option maxHeartbeats 4000000 in
theorem rcSort {I : Jd pp} (hI : ∀ w e, I.Ok w e) : RC I 9 SSort := by
  refine rc_of_code (isObj := isO9) (Γ := envOf [(15, SClone), (16, S2 [] (.int .i64 0)), (17, SOrder), (20, C20)]) (rs := [4]) mixed hI (envOf_rc (by simpa using ⟨rcClone hI, rcCheck hI, rcOrder hI, rcC20 hI⟩)) Go.Proofs.Try.func9 (by kernel_rfl) hb9 Go.Proofs.Try.results9 Go.Proofs.Try.ntmps9 (by decide) ?_
  rintro H args K (⟨i, j, own, a, b, rfl, ⟨ha1, ha2, ha3, ha4⟩, ⟨hb1, hb2, hb3, hb4⟩, h, hK⟩ | ⟨i, j, own, a, b, c, rfl, ha, hb, hc, h, h12, h13, h23, hK⟩)
  ·
    refine ⟨by simp, rfl, ?_⟩
    unfold b9 Go.Proofs.Try.f9
    simp only [Option.getD_some, argSlots, lat2, vro_agg, List.map_cons, vro1_sl, List.map_nil, Nat.zero_add, vro_sl, w_seq, w_region, mk_clean, tS_cons, g_none, hold_app, o_box, Nat.reduceLT, take_tmp, takK, look_hit, vcl_agg, List.all_cons, vsca_sl, List.all_nil, Bool.and_self, nv_if, isO9_eq, Nat.reduceBEq, Bool.or_self, Bool.false_eq_true, dropLk, bgen_eq, bget_nil, bset_nil, if_false, o_assign, take_const, constDV, Proofs.Try.underlying24, cn30, mk_put, tS_nil, hold_app2, o_move, move_tmp, movK, look_miss, lkGet, o_fn, args_cons, rho_tmp, args_nil, mk_H, env_cons, Nat.reduceEqDiff, if_true, dcl_some, vfla_sl, true_and]
    refine ⟨_, _, _, rfl, by simp, fun k => ?_⟩
    simp only [DC.cells, List.flatMap_cons, vcl_agg, List.flatMap_nil, List.append_nil, List.cons_append, List.nil_append, List.map_cons, vro1_int, ha1, ha3, hb1, hb3, List.map_nil, List.length_cons, List.length_nil, Nat.zero_add, Nat.reduceAdd, hold_app2, mk_called, Pos.isHp, List.filter_nil, mk_put?_some, dropLk, hold_app, tS_cons, g_none, o_assign, Nat.reduceLT, take_tmp, takK, look_hit, vroA_hsl, mk_put, tS_nil, w_seq, w_region, mk_clean, o_load, rho_tmp, Nat.reduceBEq, look_miss, ld_b, bget_cons, bget_nil, if_true, dlb_some, List.drop_zero, la40, Nat.reduceLeDiff, List.take_succ_cons, List.take_zero, vro1_sl, lo_agg, o_fn, args_cons, args_nil, mk_H, env_cons, Nat.reduceEqDiff, if_false, dcl_some, List.all_cons, vfla_agg, List.all_nil, Bool.and_self, vro_agg, true_and]
    refine app2 (h.app _) ?_
    simp only [hold_app2, mk_called, Pos.isHp, List.filter_nil, mk_put?_some, dropLk, hold_app, tS_cons, g_none, o_bin, nil_int, Bool.false_eq_true, Nat.reduceLT, rho_tmp, look_hit, rho_const, constDV, b_neq, ne_eq, not_true_eq_false, decide_false, tS_nil, w_cond, cd, w_seq, w_region, mk_clean, o_move, move_tmp, movK, Nat.reduceBEq, look_miss, vroA_hsl, o_assign, take_tmp, takK, mk_put, w_ret, ret_one, vfla_hsl, true_and, false_implies, w_skip, o_load, ld_b, bget_cons, bget_nil, if_true, dlb_some, List.drop_zero, la40, List.length_cons, List.length_nil, Nat.zero_add, Nat.reduceLeDiff, List.take_succ_cons, List.take_zero, List.map_cons, vro1_sl, List.map_nil, lo_agg, o_fn, args_cons, args_nil, mk_H, env_cons, Nat.reduceEqDiff, if_false, dcl_some, List.all_cons, vfla_agg, List.all_nil, Bool.and_self, vro_agg, true_implies]
    refine ⟨i, j, rfl, h.app _, ?_⟩
    simp only [List.append_assoc, List.cons_append, List.nil_append, hold_app2, mk_called, Pos.isHp, List.filter_nil, mk_put?_some, dropLk, hold_app, tS_cons, g_none, al57, nv_if, isO9_eq, beq_self_eq_true, Nat.reduceBEq, Bool.or_false, ap_len, List.length_cons, List.length_nil, Nat.zero_add, Nat.reduceAdd, vcl_sl, bgen_eq, bget_cons, Nat.reduceEqDiff, bget_nil, if_false, bset_cons, bset_nil, if_true, o_store, Nat.reduceLT, take_tmp, takK, look_miss, look_hit, rho_tmp, st_h, ap_get, List.getElem?_cons_succ, List.getElem?_cons_zero, sth_some, Proofs.Try.underlying57, Option.isSome_some, cn57, List.all_cons, vsca_sl, List.all_nil, Bool.and_self, Nat.reduceLeDiff, putAt_eq, List.take_zero, List.drop_succ_cons, List.drop_nil, List.append_nil, mk_setH, ap_set, List.set_cons_succ, List.set_cons_zero, Pos.inHp, tS_nil, w_seq, w_region, mk_clean, o_makeFunc, List.mem_singleton, DV.plain, forall_eq, List.map_cons, vro_ptr, List.map_nil, Bool.or_true, al60, mk_newFun, vroA_fn, Proofs.Try.underlying60, vcl_fn, cn60, vsca_fn, o_move, move_tmp, movK, vroA_hsl, o_fn, args_cons, args_nil, mk_H, env_cons, dcl_some, vfla_hsl, vfla_fn, vro_hsl, vro_fn, true_and]
    refine appSort2 (levels := [0, 1]) ⟨ha1, ha2, ha3, ha4⟩ ⟨hb1, hb2, hb3, hb4⟩ (rest := List.replicate k .undef) (P := H.length + 3) (L := H.length + 2) (own := true) ?_ ?_ (by decide) ?_ ?_
    · simp only [ap_get, List.getElem?_cons_succ, List.getElem?_cons_zero]; try rfl
    · simp only [ap_get, List.getElem?_cons_succ, List.getElem?_cons_zero, List.map_cons, List.map_nil]; try rfl
    · simp only [ap_get0, DC.cells, List.cons_append, List.nil_append]
    simp only [ap_set0, hold_app2, mk_called, Pos.isHp, List.filter_nil, mk_put?_some, dropLk, hold_app, tS_nil, w_seq, w_region, mk_clean, tS_cons, g_none, o_move, Nat.reduceLT, move_tmp, movK, Nat.reduceBEq, look_miss, look_hit, vroA_hsl, o_assign, take_tmp, takK, mk_put, w_ret, ret_one, vfla_hsl, true_and]
    split
    · rename_i hc
      exact hK _ _ (List.replicate k .undef) (Fr.app _ _) (by rw [if_pos hc, ap_get0])
    · rename_i hc
      exact hK _ _ (List.replicate k .undef) (Fr.app _ _) (by rw [if_neg hc, ap_get0]; rfl)
  ·
    obtain ⟨ha1, ha2, ha3, ha4⟩ := ha
    obtain ⟨hb1, hb2, hb3, hb4⟩ := hb
    obtain ⟨hc1, hc2, hc3, hc4⟩ := hc
    refine ⟨by simp, rfl, ?_⟩
    unfold b9 Go.Proofs.Try.f9
    simp only [Option.getD_some, argSlots, lat2, vro_agg, List.map_cons, vro1_sl, List.map_nil, Nat.zero_add, vro_sl, w_seq, w_region, mk_clean, tS_cons, g_none, hold_app, o_box, Nat.reduceLT, take_tmp, takK, look_hit, vcl_agg, List.all_cons, vsca_sl, List.all_nil, Bool.and_self, nv_if, isO9_eq, Nat.reduceBEq, Bool.or_self, Bool.false_eq_true, dropLk, bgen_eq, bget_nil, bset_nil, if_false, o_assign, take_const, constDV, Proofs.Try.underlying24, cn30, mk_put, tS_nil, hold_app2, o_move, move_tmp, movK, look_miss, lkGet, o_fn, args_cons, rho_tmp, args_nil, mk_H, env_cons, Nat.reduceEqDiff, if_true, dcl_some, vfla_sl, true_and]
    refine ⟨_, _, _, rfl, by simp, fun k => ?_⟩
    simp only [DC.cells, List.flatMap_cons, vcl_agg, List.flatMap_nil, List.append_nil, List.cons_append, List.nil_append, List.map_cons, vro1_int, ha1, ha3, hb1, hb3, hc1, hc3, List.map_nil, List.length_cons, List.length_nil, Nat.zero_add, Nat.reduceAdd, hold_app2, mk_called, Pos.isHp, List.filter_nil, mk_put?_some, dropLk, hold_app, tS_cons, g_none, o_assign, Nat.reduceLT, take_tmp, takK, look_hit, vroA_hsl, mk_put, tS_nil, w_seq, w_region, mk_clean, o_load, rho_tmp, Nat.reduceBEq, look_miss, ld_b, bget_cons, bget_nil, if_true, dlb_some, List.drop_zero, la40, Nat.reduceLeDiff, List.take_succ_cons, List.take_zero, vro1_sl, lo_agg, o_fn, args_cons, args_nil, mk_H, env_cons, Nat.reduceEqDiff, if_false, dcl_some, List.all_cons, vfla_agg, List.all_nil, Bool.and_self, vro_agg, true_and]
    refine app2 (h.app _) ?_
    simp only [hold_app2, mk_called, Pos.isHp, List.filter_nil, mk_put?_some, dropLk, hold_app, tS_cons, g_none, o_bin, nil_int, Bool.false_eq_true, Nat.reduceLT, rho_tmp, look_hit, rho_const, constDV, b_neq, ne_eq, not_true_eq_false, decide_false, tS_nil, w_cond, cd, w_seq, w_region, mk_clean, o_move, move_tmp, movK, Nat.reduceBEq, look_miss, vroA_hsl, o_assign, take_tmp, takK, mk_put, w_ret, ret_one, vfla_hsl, true_and, false_implies, w_skip, o_load, ld_b, bget_cons, bget_nil, if_true, dlb_some, List.drop_zero, la40, List.length_cons, List.length_nil, Nat.zero_add, Nat.reduceLeDiff, List.take_succ_cons, List.take_zero, List.map_cons, vro1_sl, List.map_nil, lo_agg, o_fn, args_cons, args_nil, mk_H, env_cons, Nat.reduceEqDiff, if_false, dcl_some, List.all_cons, vfla_agg, List.all_nil, Bool.and_self, vro_agg, true_implies]
    refine ⟨i, j, rfl, h.app _, ?_⟩
    simp only [List.append_assoc, List.cons_append, List.nil_append, hold_app2, mk_called, Pos.isHp, List.filter_nil, mk_put?_some, dropLk, hold_app, tS_cons, g_none, al57, nv_if, isO9_eq, beq_self_eq_true, Nat.reduceBEq, Bool.or_false, ap_len, List.length_cons, List.length_nil, Nat.zero_add, Nat.reduceAdd, vcl_sl, bgen_eq, bget_cons, Nat.reduceEqDiff, bget_nil, if_false, bset_cons, bset_nil, if_true, o_store, Nat.reduceLT, take_tmp, takK, look_miss, look_hit, rho_tmp, st_h, ap_get, List.getElem?_cons_succ, List.getElem?_cons_zero, sth_some, Proofs.Try.underlying57, Option.isSome_some, cn57, List.all_cons, vsca_sl, List.all_nil, Bool.and_self, Nat.reduceLeDiff, putAt_eq, List.take_zero, List.drop_succ_cons, List.drop_nil, List.append_nil, mk_setH, ap_set, List.set_cons_succ, List.set_cons_zero, Pos.inHp, tS_nil, w_seq, w_region, mk_clean, o_makeFunc, List.mem_singleton, DV.plain, forall_eq, List.map_cons, vro_ptr, List.map_nil, Bool.or_true, al60, mk_newFun, vroA_fn, Proofs.Try.underlying60, vcl_fn, cn60, vsca_fn, o_move, move_tmp, movK, vroA_hsl, o_fn, args_cons, args_nil, mk_H, env_cons, dcl_some, vfla_hsl, vfla_fn, vro_hsl, vro_fn, true_and]
    refine appSort3 (levels := [0, 1]) ⟨ha1, ha2, ha3, ha4⟩ ⟨hb1, hb2, hb3, hb4⟩ ⟨hc1, hc2, hc3, hc4⟩ (rest := List.replicate k .undef) (P := H.length + 3) (L := H.length + 2) (own := true) ?_ ?_ (by decide) ?_ h12 h13 h23 ?_
    · simp only [ap_get, List.getElem?_cons_succ, List.getElem?_cons_zero]; try rfl
    · simp only [ap_get, List.getElem?_cons_succ, List.getElem?_cons_zero, List.map_cons, List.map_nil]; try rfl
    · simp only [ap_get0, DC.cells, List.cons_append, List.nil_append]
    simp only [ap_set0, hold_app2, mk_called, Pos.isHp, List.filter_nil, mk_put?_some, dropLk, hold_app, tS_nil, w_seq, w_region, mk_clean, tS_cons, g_none, o_move, Nat.reduceLT, move_tmp, movK, Nat.reduceBEq, look_miss, look_hit, vroA_hsl, o_assign, take_tmp, takK, mk_put, w_ret, ret_one, vfla_hsl, true_and]
    exact hK _ _ (List.replicate k .undef) (Fr.app _ _) (by rw [ap_get0])
end Go.Ab.Or
