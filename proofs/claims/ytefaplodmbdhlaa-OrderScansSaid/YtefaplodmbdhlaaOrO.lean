/- A part of the proofs that a law function returns true at every input; it has no condition of its own. -/
import Derived.Test.YtefaplodmbdhlaaOrN
set_option linter.unusedSimpArgs false
set_option linter.unusedVariables false
/- OrO: The order laws: what a read tells, by the store. -/
namespace Go.Ab.Or
open Go Go.Conc Go.RowKit Go.Ab
set_option maxRecDepth 10000
def readF (F : Int → Option Files) (r : RD) : List (Str × Str) :=
  if r.scan = true then (pairsF (F r.lv) r.fr r.to).take 64
  else match getF ((F r.lv).getD []) r.fr with
    | some v => [(r.fr, v)]
    | none => []
noncomputable def b13 : Code := (Go.Proofs.Try.f13.body).getD .skip
theorem hb13 : Go.Proofs.Try.f13.body = some b13 := by kernel_rfl
def SRd : Spec := fun H args K => ∃ n0 sid r S, args = [.map sid, .agg (RD.cells r)] ∧ StAt n0 H sid S ∧ (∀ fs, filesS S r.lv = some fs → FOk fs) ∧ ∀ H' own, Fr H H' [] → K H' (.sl own 2 ((readF (filesS S) r).map prD))
set_option maxHeartbeats 4000000 in
theorem rcRd : RC (loneJ pp) 13 SRd := by
  have hI : ∀ w e, (loneJ pp).Ok w e := fun _ _ => trivial
  refine rc_of_code (isObj := isO) (Γ := envOf [(25, SPrs)]) (rs := [4]) mixed hI (envOf_rc (by simpa using rcPrs)) Go.Proofs.Try.func13 (by kernel_rfl) hb13 Go.Proofs.Try.results13 Go.Proofs.Try.ntmps13 (by decide) ?_
  rintro H args K ⟨n0, sid, ⟨lv, sc, fr, to, ps⟩, S, rfl, hS, hok, hK⟩
  cases sc with
  | true =>
    refine ⟨by simp, rfl, ?_⟩
    unfold b13 Go.Proofs.Try.f13
    simp only [Option.getD_some, argSlots, vro_map, Nat.zero_add, RD.cells, vro_agg, List.map_cons, vro1_int, vro1_bool, vro1_str, vro1_sl, List.map_nil, w_seq, w_region, mk_clean, tS_cons, g_none, hold_app, o_box, Nat.reduceLT, take_tmp, takK, Nat.reduceBEq, look_miss, look_hit, vcl_agg, List.all_cons, vsca_int, vsca_bool, vsca_str, vsca_sl, List.all_nil, Bool.and_self, nv_if, isO_eq, Bool.or_self, Bool.false_eq_true, dropLk, bgen_eq, bget_nil, bset_nil, if_false, o_assign, take_const, constDV, Proofs.Try.underlying31, cn35, mk_put, tS_nil, hold_app2, o_fieldAddr, rho_tmp, fl33_1, mk_put?_some, o_load, ld_b, bget_cons, if_true, dlb_some, List.drop_succ_cons, List.drop_zero, la4, vro_bool, lo_bool, w_cond, cd_t, o_move, move_tmp, movK, vroA_map, fl33_0, Nat.add_zero, la3, vro_int, lo_int, fl33_2, la9, vro_str, lo_str, fl33_3, o_fn, args_cons, args_nil, mk_H, env_cons, dcl_some, vfla_map, vfla_int, vfla_str, true_and]
    refine ⟨n0, sid, lv, fr, to, S, rfl, hS, hok, fun H' hF => ?_⟩
    simp only [hold_app2, mk_called, Pos.isHp, List.filter_nil, mk_put?_some, dropLk, hold_app, tS_cons, g_none, o_assign, Nat.reduceLT, take_tmp, takK, look_hit, mk_put, tS_nil, w_seq, w_region, mk_clean, o_move, move_tmp, movK, Nat.reduceEqDiff, if_false, Nat.reduceBEq, look_miss, Pos.atSlot, Bool.or_self, Bool.false_eq_true, o_len, rho_tmp, dl31, List.length_map, o_min, rho_const, constDV, m_min, o_slice, Option.map_none, Option.map_some, sc31, lkGet, w_ret, ret_one, vfla_sl, true_and]
    have ht : (if (64 : Int) < ((pairsF (filesS S lv) fr to).length : Int) then (64 : Int) else ((pairsF (filesS S lv) fr to).length : Int)).toNat = min 64 (pairsF (filesS S lv) fr to).length := by split <;> omega
    refine ⟨by split <;> omega, by split <;> omega, ?_⟩
    show K H' (.sl false 2 (List.drop 0 (List.take _ _)))
    have := hK H' false hF
    rw [ht, List.drop_zero, ← List.map_take]
    rw [show (pairsF (filesS S lv) fr to).take (min 64 (pairsF (filesS S lv) fr to).length) = (pairsF (filesS S lv) fr to).take 64 by rw [← List.take_take, List.take_length] ] 
    exact this
  | false =>
    cases hid : idS lv S with
    | none =>
      refine ⟨by simp, rfl, ?_⟩
      unfold b13 Go.Proofs.Try.f13
      simp only [Option.getD_some, argSlots, vro_map, Nat.zero_add, RD.cells, vro_agg, List.map_cons, vro1_int, vro1_bool, vro1_str, vro1_sl, List.map_nil, w_seq, w_region, mk_clean, tS_cons, g_none, hold_app, o_box, Nat.reduceLT, take_tmp, takK, Nat.reduceBEq, look_miss, look_hit, vcl_agg, List.all_cons, vsca_int, vsca_bool, vsca_str, vsca_sl, List.all_nil, Bool.and_self, nv_if, isO_eq, Bool.or_self, Bool.false_eq_true, dropLk, bgen_eq, bget_nil, bset_nil, if_false, o_assign, take_const, constDV, Proofs.Try.underlying31, cn35, mk_put, tS_nil, hold_app2, o_fieldAddr, rho_tmp, fl33_1, mk_put?_some, o_load, ld_b, bget_cons, if_true, dlb_some, List.drop_succ_cons, List.drop_zero, la4, vro_bool, lo_bool, w_cond, cd_f, w_skip, o_move, move_tmp, movK, vroA_map, fl33_0, Nat.add_zero, la3, vro_int, lo_int, o_lookup, DV.plain, lk_h Go.Proofs.Try.underlying49, hS.top, kt3, lf68, true_and, onMap_some, find_top, hid, Option.map_none, Option.getD_none, fl33_2, la9, vro_str, lo_str, lk_nil Go.Proofs.Try.underlying68, kt9, lt9, Option.isSome_none, vroA_tup, o_extract, ex_0, ext_tmp, extK, ex_1, vroA_str, vroA_bool, w_ret, ret_one, vfla_sl]
      have := hK H true (Fr.refl H _)
      simpa [readF, filesS, hid, getF] using this
    | some y =>
      obtain ⟨id, fs⟩ := y
      have hfl := hS.files _ (idS_mem hid)
      refine ⟨by simp, rfl, ?_⟩
      unfold b13 Go.Proofs.Try.f13
      cases hg : getF fs fr with
      | none =>
        simp only [Option.getD_some, argSlots, vro_map, Nat.zero_add, RD.cells, vro_agg, List.map_cons, vro1_int, vro1_bool, vro1_str, vro1_sl, List.map_nil, w_seq, w_region, mk_clean, tS_cons, g_none, hold_app, o_box, Nat.reduceLT, take_tmp, takK, Nat.reduceBEq, look_miss, look_hit, vcl_agg, List.all_cons, vsca_int, vsca_bool, vsca_str, vsca_sl, List.all_nil, Bool.and_self, nv_if, isO_eq, Bool.or_self, Bool.false_eq_true, dropLk, bgen_eq, bget_nil, bset_nil, if_false, o_assign, take_const, constDV, Proofs.Try.underlying31, cn35, mk_put, tS_nil, hold_app2, o_fieldAddr, rho_tmp, fl33_1, mk_put?_some, o_load, ld_b, bget_cons, if_true, dlb_some, List.drop_succ_cons, List.drop_zero, la4, vro_bool, lo_bool, w_cond, cd_f, w_skip, o_move, move_tmp, movK, vroA_map, fl33_0, Nat.add_zero, la3, vro_int, lo_int, o_lookup, DV.plain, lk_h Go.Proofs.Try.underlying49, hS.top, kt3, lf68, true_and, onMap_some, find_top, hid, Option.map_some, fl33_2, la9, vro_str, lo_str, lk_h Go.Proofs.Try.underlying68, hfl, kt9, lt9, find_enc, hg, Option.map_none, Option.getD_none, Option.isSome_none, vroA_tup, o_extract, ex_0, ext_tmp, extK, ex_1, vroA_str, vroA_bool, w_ret, ret_one, vfla_sl]
        have := hK H true (Fr.refl H _)
        simpa [readF, filesS, hid, hg] using this
      | some v =>
        simp only [Option.getD_some, argSlots, vro_map, Nat.zero_add, RD.cells, vro_agg, List.map_cons, vro1_int, vro1_bool, vro1_str, vro1_sl, List.map_nil, w_seq, w_region, mk_clean, tS_cons, g_none, hold_app, o_box, Nat.reduceLT, take_tmp, takK, Nat.reduceBEq, look_miss, look_hit, vcl_agg, List.all_cons, vsca_int, vsca_bool, vsca_str, vsca_sl, List.all_nil, Bool.and_self, nv_if, isO_eq, Bool.or_self, Bool.false_eq_true, dropLk, bgen_eq, bget_nil, bset_nil, if_false, o_assign, take_const, constDV, Proofs.Try.underlying31, cn35, mk_put, tS_nil, hold_app2, o_fieldAddr, rho_tmp, fl33_1, mk_put?_some, o_load, ld_b, bget_cons, if_true, dlb_some, List.drop_succ_cons, List.drop_zero, la4, vro_bool, lo_bool, w_cond, cd_f, w_skip, o_move, move_tmp, movK, vroA_map, fl33_0, Nat.add_zero, la3, vro_int, lo_int, o_lookup, DV.plain, lk_h Go.Proofs.Try.underlying49, hS.top, kt3, lf68, true_and, onMap_some, find_top, hid, Option.map_some, fl33_2, la9, vro_str, lo_str, lk_h Go.Proofs.Try.underlying68, hfl, kt9, lt9, find_enc, hg, Option.isSome_some, vroA_tup, o_extract, ex_0, ext_tmp, extK, ex_1, vroA_str, vroA_bool, cd_t, bd35, bd35_0, bdk_eq, vcl_str, List.length_cons, List.length_nil, Nat.reduceAdd, Nat.reduceLeDiff, putAt_eq, List.take_zero, List.nil_append, List.cons_append, bd35_1, List.take_succ_cons, List.drop_nil, List.append_nil, bd_nil, bs31_1, bsl_f, beq_self_eq_true, w_ret, ret_one, vfla_sl]
        have := hK H true (Fr.refl H _)
        simpa [readF, filesS, hid, hg, prD] using this
end Go.Ab.Or
