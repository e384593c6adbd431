/- A part of the proofs that a law function returns true at every input; it has no condition of its own. -/
import Derived.Test.YtcljbddnnnbihaaShE
set_option linter.unusedSimpArgs false
set_option linter.unusedVariables false
/- ShA: The shelf's small functions. -/
namespace Go.Ab.Sh
open Go Go.Conc Go.RowKit Go.Ab
set_option maxRecDepth 10000
noncomputable def b35 : Code := (Go.Proofs.Try.f35.body).getD .skip
theorem hb35 : Go.Proofs.Try.f35.body = some b35 := by kernel_rfl
/-- there. -/
def S35 : Spec := fun H args K => ∃ id k n kept now acts room nm, args = [.ptr id 0, .str nm] ∧ ShelfAt H id k n kept now acts room ∧ K H (.bool (getF now nm).isSome)
theorem rc35 {I : Jd pp} (hI : ∀ w e, I.Ok w e) : RC I 35 S35 := by
  refine rc_of_code (isObj := isO) (Γ := envOf []) (rs := [4]) mixed hI (envOf_rc (by simp)) Go.Proofs.Try.func35 (by kernel_rfl) hb35 Go.Proofs.Try.results35 Go.Proofs.Try.ntmps35 (by decide) ?_
  rintro H args K ⟨id, k, n, kept, now, acts, room, nm, rfl, ⟨h1, h2, h3, h4⟩, hK⟩
  refine ⟨by simp, rfl, ?_⟩
  unfold b35 Go.Proofs.Try.f35
  simp only [w_skip, w_label, w_ret, w_exit, w_seq, w_cond, w_block, w_scope, w_region, mk_clean, tS_cons, tS_nil, g_none, g_some, gq_zero, gq_succ, gs1_eq, gs2_bool, gs2_tup, o_move, o_assign, o_pick, o_alloc, o_box, o_load, o_store, o_nilCheck, o_bin, o_un, o_conv, o_makeMap, o_slice, o_fieldAddr, o_field, o_indexAddr, o_index, o_lookup, o_mapUpdate, o_extract, o_len, o_max, o_min, o_append, o_delete,
    hold_app, hold_app2, move_tmp, move_const, take_tmp, take_const, rho_tmp, rho_const, constDV, mk_put, mk_put?_some, mk_put?_none, mk_setT, mk_newMap, mk_forget, argSlots, DV.ro, DV.roA, DV.ro1, dropLk, look_hit, look_miss, movK, takK, extK, ext_tmp, dnil, pk, cd, ex_0, ex_1, ex_2, lo_int, lo_str, lo_bool, lo_map, lo_ptr, lo_agg, lo_sl, addrPos, lkGet, ld_vptr,
    ld_h, dlh_some, ld_b, dlb_some, st_h, sth_some, st_b, stb_some, onMap_some, bget_nil, bget_cons, bset_nil, bset_cons, bgen_eq, putAt_eq, List.take_succ_cons, List.take_zero, List.nil_append, List.cons_append, List.append_nil, List.drop_nil, mk_setH, mk_setB, List.filter_nil, Nat.reduceLeDiff,
    nil_tmp, nil_int, nil_str, nil_bool, nil_ptr, nil_map, nil_sl, n_eql Go.Proofs.Try.underlying55, n_neq Go.Proofs.Try.underlying55,
    b_add, b_sub, b_mul, b_eql, b_neq, b_lss, b_leq, b_gtr, b_geq, s_eql, s_neq, s_lss, s_add, u_not, m_max, m_min, plain_str, plain_int, DV.cells, DV.scalar, DV.flat,
    Nat.reduceLT, Nat.reduceAdd, Nat.reduceBEq, Nat.reduceEqDiff, List.drop_succ_cons, List.drop_zero, Nat.zero_add, Nat.add_zero, List.getElem?_cons_zero, List.getElem?_cons_succ, Option.getD_some, if_true, if_false, Option.isSome_some, eq_self, reduceCtorEq, reduceIte, Bool.true_eq_false, Bool.false_eq_true, false_implies, true_implies, and_true, true_and, ne_eq, not_false_eq_true, not_true_eq_false, List.all_cons, List.all_nil, Bool.and_self, Bool.not_true, Bool.not_false, List.map_cons, List.map_nil, List.length_cons, List.length_nil,
    lk_h Go.Proofs.Try.underlying54, mu_h Go.Proofs.Try.underlying54, md_h Go.Proofs.Try.underlying54, find_enc, set_enc, del_enc, all_enc, DV.plain, nv65, nv69, nv75, no57, no61,
    o_fn, dcl_some, env_cons, args_nil, args_cons, mk_called, mk_H, filter_isHp_nil, rp_done, rp_quiet, rpQ_succ, rpQ_zero, rp_acts, ra_nil, ra_cons, rpA_succ, rpA_zero, rcA_nil, rcA_cons, rcW_succ, rcW_zero, slL_nil, slL_cons, slW_succ, slW_zero, mk_unlink, dropLks, Pos.atSlot, Pos.isHp, Pos.inHp, Pos.inBox, Bool.or_false, Bool.false_or, Bool.or_true, Bool.true_or, List.filter_cons, ex_eq, ex_and, mk_t,
    q_move, q_assign, q_pick, q_load, q_nilCheck, q_bin, q_un, q_conv, q_fieldAddr, q_field, q_indexAddr, q_index, q_lookup, q_extract, q_len, q_max, q_min,
    Go.Proofs.Try.underlying55, Go.Proofs.Try.underlying58, Go.Proofs.Try.underlying59, Go.Proofs.Try.underlying45, apd_own, own_hp, ohp_some, ownSz_t, ownSz_f, own_slot, part_sl, part_tup0, un_hp, unh_some, un_slot, listRo_eq, List.set_cons_zero, List.set_cons_succ, List.getD_cons_zero, List.getD_cons_succ, List.getElem?_set_self', List.set_set, Function.const_apply, Option.map_some, Option.map_eq_map, bz55, bs55, bs58, bs59, ap55, ap58, ap59,
    bdk_eq, bd_nil, bqk, bq_nil, List.append_assoc,
    ret_none, ret_none', ret_one, ret_one', ret_two,
    fp57_0, fl57_0, fv57_0, fp57_1, fl57_1, fv57_1, fp57_2, fl57_2, fv57_2, fp57_3, fl57_3, fv57_3, fp61_0, fl61_0, fv61_0, fp61_1, fl61_1, fv61_1, fp61_2, fl61_2, fv61_2, fp61_3, fl61_3, fv61_3, fp65_0, fl65_0, fv65_0, fp65_1, fl65_1, fv65_1, fp65_2, fl65_2, fv65_2, fp69_0, fl69_0, fv69_0, fp69_1, fl69_1, fv69_1, fp69_2, fl69_2, fv69_2, fp75_0, fl75_0, fv75_0, fp75_1, fl75_1, fv75_1, fp31_0, fl31_0, fv31_0, fp31_1, fl31_1, fv31_1, fp31_2, fl31_2, fv31_2, fp31_3, fl31_3, fv31_3, fp31_4, fl31_4, fv31_4, fp31_5, fl31_5, fv31_5, dl9, ix9, dl22, ix22, dl45, ix45, dl48, ix48, dl55, ix55, dl58, ix58, dl59, ix59, la2, la3, la4, la5, la9, la25, la27, la29, la45, la54, la55, la58, la59, la22, la48, la57, la61, la65, la69, la75, la31, lf9, lf9', kt9, ia2, cn2, us2, ia3, cn3, us3, ia4, cn4, us4, ia5, cn5, us5, ia9, cn9, us9, ia22, cn22, us22, ia25, cn25, us25, ia27, cn27, us27, ia29, cn29, us29, ia45, cn45, us45, ia48, cn48, us48, ia54, cn54, us54, ia55, cn55, us55, ia57, cn57, us57, ia58, cn58, us58, ia59, cn59, us59, ia61, cn61, us61, ia65, cn65, us65, ia69, cn69, us69, ia75, cn75, us75, ia31, cn31, us31, dl54h, enc_length, bd57, bq57, bd57_0, bq57_0, bd57_1, bq57_1, bd57_2, bq57_2, bd57_3, bq57_3, bd61, bq61, bd61_0, bq61_0, bd61_1, bq61_1, bd61_2, bq61_2, bd61_3, bq61_3, bd65, bq65, bd65_0, bq65_0, bd65_1, bq65_1, bd65_2, bq65_2, bd69, bq69, bd69_0, bq69_0, bd69_1, bq69_1, bd69_2, bq69_2, bd75, bq75, bd75_0, bq75_0, bd75_1, bq75_1, h1, h3, shelfC]
  exact hK

noncomputable def b34 : Code := (Go.Proofs.Try.f34.body).getD .skip
theorem hb34 : Go.Proofs.Try.f34.body = some b34 := by kernel_rfl
def okC (c : UInt8) : Bool := (97 ≤ c.toNat && c.toNat ≤ 122) || (48 ≤ c.toNat && c.toNat ≤ 57) || c.toNat == 45
def namedF (s : Str) : Bool := s.all okC && decide (s ≠ []) && decide (s.length ≤ 16)
/-- named. -/
def S34 : Spec := fun H args K => ∃ s : Str, args = [.str s] ∧ s.length < 4611686018427387904 ∧ K H (.bool (namedF s))
def M34 (s : Str) (H : List HObj) (m : Nat) (st : St) : Prop := ∃ i : Nat, i ≤ s.length ∧ m = s.length - i ∧ (∀ j, j < i → okC (s.getD j 0) = true) ∧ st = mk 39 [(0, .str s), (2, .bool false), (6, .int .i64 s.length), (7, .int .i64 i)] [] H []
theorem rc34 {I : Jd pp} (hI : ∀ w e, I.Ok w e) : RC I 34 S34 := by
  refine rc_of_code (isObj := isO) (Γ := envOf []) (rs := [2]) mixed hI (envOf_rc (by simp)) Go.Proofs.Try.func34 (by kernel_rfl) hb34 Go.Proofs.Try.results34 Go.Proofs.Try.ntmps34 (by decide) ?_
  rintro H args K ⟨s, rfl, hlen, hK⟩
  refine ⟨by simp, rfl, ?_⟩
  unfold b34 Go.Proofs.Try.f34
  simp only [w_skip, w_label, w_ret, w_exit, w_seq, w_cond, w_block, w_scope, w_region, mk_clean, tS_cons, tS_nil, g_none, g_some, gq_zero, gq_succ, gs1_eq, gs2_bool, gs2_tup, o_move, o_assign, o_pick, o_alloc, o_box, o_load, o_store, o_nilCheck, o_bin, o_un, o_conv, o_makeMap, o_slice, o_fieldAddr, o_field, o_indexAddr, o_index, o_lookup, o_mapUpdate, o_extract, o_len, o_max, o_min, o_append, o_delete,
    hold_app, hold_app2, move_tmp, move_const, take_tmp, take_const, rho_tmp, rho_const, constDV, mk_put, mk_put?_some, mk_put?_none, mk_setT, mk_newMap, mk_forget, argSlots, DV.ro, DV.roA, DV.ro1, dropLk, look_hit, look_miss, movK, takK, extK, ext_tmp, dnil, pk, cd, ex_0, ex_1, ex_2, lo_int, lo_str, lo_bool, lo_map, lo_ptr, lo_agg, lo_sl, addrPos, lkGet, ld_vptr,
    ld_h, dlh_some, ld_b, dlb_some, st_h, sth_some, st_b, stb_some, onMap_some, bget_nil, bget_cons, bset_nil, bset_cons, bgen_eq, putAt_eq, List.take_succ_cons, List.take_zero, List.nil_append, List.cons_append, List.append_nil, List.drop_nil, mk_setH, mk_setB, List.filter_nil, Nat.reduceLeDiff,
    nil_tmp, nil_int, nil_str, nil_bool, nil_ptr, nil_map, nil_sl, n_eql Go.Proofs.Try.underlying55, n_neq Go.Proofs.Try.underlying55,
    b_add, b_sub, b_mul, b_eql, b_neq, b_lss, b_leq, b_gtr, b_geq, s_eql, s_neq, s_lss, s_add, u_not, m_max, m_min, plain_str, plain_int, DV.cells, DV.scalar, DV.flat,
    Nat.reduceLT, Nat.reduceAdd, Nat.reduceBEq, Nat.reduceEqDiff, List.drop_succ_cons, List.drop_zero, Nat.zero_add, Nat.add_zero, List.getElem?_cons_zero, List.getElem?_cons_succ, Option.getD_some, if_true, if_false, Option.isSome_some, eq_self, reduceCtorEq, reduceIte, Bool.true_eq_false, Bool.false_eq_true, false_implies, true_implies, and_true, true_and, ne_eq, not_false_eq_true, not_true_eq_false, List.all_cons, List.all_nil, Bool.and_self, Bool.not_true, Bool.not_false, List.map_cons, List.map_nil, List.length_cons, List.length_nil,
    lk_h Go.Proofs.Try.underlying54, mu_h Go.Proofs.Try.underlying54, md_h Go.Proofs.Try.underlying54, find_enc, set_enc, del_enc, all_enc, DV.plain, nv65, nv69, nv75, no57, no61,
    o_fn, dcl_some, env_cons, args_nil, args_cons, mk_called, mk_H, filter_isHp_nil, rp_done, rp_quiet, rpQ_succ, rpQ_zero, rp_acts, ra_nil, ra_cons, rpA_succ, rpA_zero, rcA_nil, rcA_cons, rcW_succ, rcW_zero, slL_nil, slL_cons, slW_succ, slW_zero, mk_unlink, dropLks, Pos.atSlot, Pos.isHp, Pos.inHp, Pos.inBox, Bool.or_false, Bool.false_or, Bool.or_true, Bool.true_or, List.filter_cons, ex_eq, ex_and, mk_t,
    q_move, q_assign, q_pick, q_load, q_nilCheck, q_bin, q_un, q_conv, q_fieldAddr, q_field, q_indexAddr, q_index, q_lookup, q_extract, q_len, q_max, q_min,
    Go.Proofs.Try.underlying55, Go.Proofs.Try.underlying58, Go.Proofs.Try.underlying59, Go.Proofs.Try.underlying45, apd_own, own_hp, ohp_some, ownSz_t, ownSz_f, own_slot, part_sl, part_tup0, un_hp, unh_some, un_slot, listRo_eq, List.set_cons_zero, List.set_cons_succ, List.getD_cons_zero, List.getD_cons_succ, List.getElem?_set_self', List.set_set, Function.const_apply, Option.map_some, Option.map_eq_map, bz55, bs55, bs58, bs59, ap55, ap58, ap59,
    bdk_eq, bd_nil, bqk, bq_nil, List.append_assoc,
    ret_none, ret_none', ret_one, ret_one', ret_two,
    fp57_0, fl57_0, fv57_0, fp57_1, fl57_1, fv57_1, fp57_2, fl57_2, fv57_2, fp57_3, fl57_3, fv57_3, fp61_0, fl61_0, fv61_0, fp61_1, fl61_1, fv61_1, fp61_2, fl61_2, fv61_2, fp61_3, fl61_3, fv61_3, fp65_0, fl65_0, fv65_0, fp65_1, fl65_1, fv65_1, fp65_2, fl65_2, fv65_2, fp69_0, fl69_0, fv69_0, fp69_1, fl69_1, fv69_1, fp69_2, fl69_2, fv69_2, fp75_0, fl75_0, fv75_0, fp75_1, fl75_1, fv75_1, fp31_0, fl31_0, fv31_0, fp31_1, fl31_1, fv31_1, fp31_2, fl31_2, fv31_2, fp31_3, fl31_3, fv31_3, fp31_4, fl31_4, fv31_4, fp31_5, fl31_5, fv31_5, dl9, ix9, dl22, ix22, dl45, ix45, dl48, ix48, dl55, ix55, dl58, ix58, dl59, ix59, la2, la3, la4, la5, la9, la25, la27, la29, la45, la54, la55, la58, la59, la22, la48, la57, la61, la65, la69, la75, la31, lf9, lf9', kt9, ia2, cn2, us2, ia3, cn3, us3, ia4, cn4, us4, ia5, cn5, us5, ia9, cn9, us9, ia22, cn22, us22, ia25, cn25, us25, ia27, cn27, us27, ia29, cn29, us29, ia45, cn45, us45, ia48, cn48, us48, ia54, cn54, us54, ia55, cn55, us55, ia57, cn57, us57, ia58, cn58, us58, ia59, cn59, us59, ia61, cn61, us61, ia65, cn65, us65, ia69, cn69, us69, ia75, cn75, us75, ia31, cn31, us31, dl54h, enc_length, bd57, bq57, bd57_0, bq57_0, bd57_1, bq57_1, bd57_2, bq57_2, bd57_3, bq57_3, bd61, bq61, bd61_0, bq61_0, bd61_1, bq61_1, bd61_2, bq61_2, bd61_3, bq61_3, bd65, bq65, bd65_0, bq65_0, bd65_1, bq65_1, bd65_2, bq65_2, bd69, bq69, bd69_0, bq69_0, bd69_1, bq69_1, bd69_2, bq69_2, bd75, bq75, bd75_0, bq75_0, bd75_1, bq75_1]
  refine w_loop [0, 2, 6, 7] (M34 s H) s.length ?_ ?_
  · exact ⟨0, by omega, by omega, by intro j hj; omega, by simp only [mk_forget, w_skip, w_label, w_ret, w_exit, w_seq, w_cond, w_block, w_scope, w_region, mk_clean, tS_cons, tS_nil, g_none, g_some, gq_zero, gq_succ, gs1_eq, gs2_bool, gs2_tup, o_move, o_assign, o_pick, o_alloc, o_box, o_load, o_store, o_nilCheck, o_bin, o_un, o_conv, o_makeMap, o_slice, o_fieldAddr, o_field, o_indexAddr, o_index, o_lookup, o_mapUpdate, o_extract, o_len, o_max, o_min, o_append, o_delete,
    hold_app, hold_app2, move_tmp, move_const, take_tmp, take_const, rho_tmp, rho_const, constDV, mk_put, mk_put?_some, mk_put?_none, mk_setT, mk_newMap, mk_forget, argSlots, DV.ro, DV.roA, DV.ro1, dropLk, look_hit, look_miss, movK, takK, extK, ext_tmp, dnil, pk, cd, ex_0, ex_1, ex_2, lo_int, lo_str, lo_bool, lo_map, lo_ptr, lo_agg, lo_sl, addrPos, lkGet, ld_vptr,
    ld_h, dlh_some, ld_b, dlb_some, st_h, sth_some, st_b, stb_some, onMap_some, bget_nil, bget_cons, bset_nil, bset_cons, bgen_eq, putAt_eq, List.take_succ_cons, List.take_zero, List.nil_append, List.cons_append, List.append_nil, List.drop_nil, mk_setH, mk_setB, List.filter_nil, Nat.reduceLeDiff,
    nil_tmp, nil_int, nil_str, nil_bool, nil_ptr, nil_map, nil_sl, n_eql Go.Proofs.Try.underlying55, n_neq Go.Proofs.Try.underlying55,
    b_add, b_sub, b_mul, b_eql, b_neq, b_lss, b_leq, b_gtr, b_geq, s_eql, s_neq, s_lss, s_add, u_not, m_max, m_min, plain_str, plain_int, DV.cells, DV.scalar, DV.flat,
    Nat.reduceLT, Nat.reduceAdd, Nat.reduceBEq, Nat.reduceEqDiff, List.drop_succ_cons, List.drop_zero, Nat.zero_add, Nat.add_zero, List.getElem?_cons_zero, List.getElem?_cons_succ, Option.getD_some, if_true, if_false, Option.isSome_some, eq_self, reduceCtorEq, reduceIte, Bool.true_eq_false, Bool.false_eq_true, false_implies, true_implies, and_true, true_and, ne_eq, not_false_eq_true, not_true_eq_false, List.all_cons, List.all_nil, Bool.and_self, Bool.not_true, Bool.not_false, List.map_cons, List.map_nil, List.length_cons, List.length_nil,
    lk_h Go.Proofs.Try.underlying54, mu_h Go.Proofs.Try.underlying54, md_h Go.Proofs.Try.underlying54, find_enc, set_enc, del_enc, all_enc, DV.plain, nv65, nv69, nv75, no57, no61,
    o_fn, dcl_some, env_cons, args_nil, args_cons, mk_called, mk_H, filter_isHp_nil, rp_done, rp_quiet, rpQ_succ, rpQ_zero, rp_acts, ra_nil, ra_cons, rpA_succ, rpA_zero, rcA_nil, rcA_cons, rcW_succ, rcW_zero, slL_nil, slL_cons, slW_succ, slW_zero, mk_unlink, dropLks, Pos.atSlot, Pos.isHp, Pos.inHp, Pos.inBox, Bool.or_false, Bool.false_or, Bool.or_true, Bool.true_or, List.filter_cons, ex_eq, ex_and, mk_t,
    q_move, q_assign, q_pick, q_load, q_nilCheck, q_bin, q_un, q_conv, q_fieldAddr, q_field, q_indexAddr, q_index, q_lookup, q_extract, q_len, q_max, q_min,
    Go.Proofs.Try.underlying55, Go.Proofs.Try.underlying58, Go.Proofs.Try.underlying59, Go.Proofs.Try.underlying45, apd_own, own_hp, ohp_some, ownSz_t, ownSz_f, own_slot, part_sl, part_tup0, un_hp, unh_some, un_slot, listRo_eq, List.set_cons_zero, List.set_cons_succ, List.getD_cons_zero, List.getD_cons_succ, List.getElem?_set_self', List.set_set, Function.const_apply, Option.map_some, Option.map_eq_map, bz55, bs55, bs58, bs59, ap55, ap58, ap59,
    bdk_eq, bd_nil, bqk, bq_nil, List.append_assoc,
    ret_none, ret_none', ret_one, ret_one', ret_two,
    fp57_0, fl57_0, fv57_0, fp57_1, fl57_1, fv57_1, fp57_2, fl57_2, fv57_2, fp57_3, fl57_3, fv57_3, fp61_0, fl61_0, fv61_0, fp61_1, fl61_1, fv61_1, fp61_2, fl61_2, fv61_2, fp61_3, fl61_3, fv61_3, fp65_0, fl65_0, fv65_0, fp65_1, fl65_1, fv65_1, fp65_2, fl65_2, fv65_2, fp69_0, fl69_0, fv69_0, fp69_1, fl69_1, fv69_1, fp69_2, fl69_2, fv69_2, fp75_0, fl75_0, fv75_0, fp75_1, fl75_1, fv75_1, fp31_0, fl31_0, fv31_0, fp31_1, fl31_1, fv31_1, fp31_2, fl31_2, fv31_2, fp31_3, fl31_3, fv31_3, fp31_4, fl31_4, fv31_4, fp31_5, fl31_5, fv31_5, dl9, ix9, dl22, ix22, dl45, ix45, dl48, ix48, dl55, ix55, dl58, ix58, dl59, ix59, la2, la3, la4, la5, la9, la25, la27, la29, la45, la54, la55, la58, la59, la22, la48, la57, la61, la65, la69, la75, la31, lf9, lf9', kt9, ia2, cn2, us2, ia3, cn3, us3, ia4, cn4, us4, ia5, cn5, us5, ia9, cn9, us9, ia22, cn22, us22, ia25, cn25, us25, ia27, cn27, us27, ia29, cn29, us29, ia45, cn45, us45, ia48, cn48, us48, ia54, cn54, us54, ia55, cn55, us55, ia57, cn57, us57, ia58, cn58, us58, ia59, cn59, us59, ia61, cn61, us61, ia65, cn65, us65, ia69, cn69, us69, ia75, cn75, us75, ia31, cn31, us31, dl54h, enc_length, bd57, bq57, bd57_0, bq57_0, bd57_1, bq57_1, bd57_2, bq57_2, bd57_3, bq57_3, bd61, bq61, bd61_0, bq61_0, bd61_1, bq61_1, bd61_2, bq61_2, bd61_3, bq61_3, bd65, bq65, bd65_0, bq65_0, bd65_1, bq65_1, bd65_2, bq65_2, bd69, bq69, bd69_0, bq69_0, bd69_1, bq69_1, bd69_2, bq69_2, bd75, bq75, bd75_0, bq75_0, bd75_1, bq75_1]; rfl⟩
  · rintro m st ⟨i, hi, rfl, hj, rfl⟩
    have hbad : i < s.length → okC (s.getD i 0) = false → K H (.bool false) := by
      intro h1 h2
      have : namedF s = false := by
        simp only [namedF, Bool.and_eq_false_iff]
        refine .inl (.inl (List.all_eq_false.2 ⟨s[i], List.getElem_mem h1, ?_⟩))
        simpa [List.getD, h1] using h2
      rwa [this] at hK
    have hgood : i < s.length → okC (s.getD i 0) = true → ∃ m', m' < s.length - i ∧ M34 s H m' (mk 39 [(0, .str s), (2, .bool false), (6, .int .i64 s.length), (7, .int .i64 (IntKind.i64.wrap ((i : Int) + 1)))] [] H []) := by
      intro h1 h2
      refine ⟨s.length - (i + 1), by omega, i + 1, by omega, rfl, fun j hj' => ?_, ?_⟩
      · rcases Nat.lt_succ_iff_lt_or_eq.1 hj' with h | rfl
        · exact hj j h
        · exact h2
      · rw [wrap_i64 (by omega) (by omega)]; rfl
    have hend : ¬ (i : Int) < s.length → K H (.bool (decide (s ≠ []) && decide (s.length ≤ 16))) := by
      intro h1
      have e : i = s.length := by omega
      have : s.all okC = true := by
        rw [List.all_eq_true]
        intro x hx
        obtain ⟨k, hk, rfl⟩ := List.getElem_of_mem hx
        simpa [List.getD, hk] using hj k (by omega)
      simpa [namedF, this] using hK
    simp only [w_skip, w_label, w_ret, w_exit, w_seq, w_cond, w_block, w_scope, w_region, mk_clean, tS_cons, tS_nil, g_none, g_some, gq_zero, gq_succ, gs1_eq, gs2_bool, gs2_tup, o_move, o_assign, o_pick, o_alloc, o_box, o_load, o_store, o_nilCheck, o_bin, o_un, o_conv, o_makeMap, o_slice, o_fieldAddr, o_field, o_indexAddr, o_index, o_lookup, o_mapUpdate, o_extract, o_len, o_max, o_min, o_append, o_delete,
    hold_app, hold_app2, move_tmp, move_const, take_tmp, take_const, rho_tmp, rho_const, constDV, mk_put, mk_put?_some, mk_put?_none, mk_setT, mk_newMap, mk_forget, argSlots, DV.ro, DV.roA, DV.ro1, dropLk, look_hit, look_miss, movK, takK, extK, ext_tmp, dnil, pk, cd, ex_0, ex_1, ex_2, lo_int, lo_str, lo_bool, lo_map, lo_ptr, lo_agg, lo_sl, addrPos, lkGet, ld_vptr,
    ld_h, dlh_some, ld_b, dlb_some, st_h, sth_some, st_b, stb_some, onMap_some, bget_nil, bget_cons, bset_nil, bset_cons, bgen_eq, putAt_eq, List.take_succ_cons, List.take_zero, List.nil_append, List.cons_append, List.append_nil, List.drop_nil, mk_setH, mk_setB, List.filter_nil, Nat.reduceLeDiff,
    nil_tmp, nil_int, nil_str, nil_bool, nil_ptr, nil_map, nil_sl, n_eql Go.Proofs.Try.underlying55, n_neq Go.Proofs.Try.underlying55,
    b_add, b_sub, b_mul, b_eql, b_neq, b_lss, b_leq, b_gtr, b_geq, s_eql, s_neq, s_lss, s_add, u_not, m_max, m_min, plain_str, plain_int, DV.cells, DV.scalar, DV.flat,
    Nat.reduceLT, Nat.reduceAdd, Nat.reduceBEq, Nat.reduceEqDiff, List.drop_succ_cons, List.drop_zero, Nat.zero_add, Nat.add_zero, List.getElem?_cons_zero, List.getElem?_cons_succ, Option.getD_some, if_true, if_false, Option.isSome_some, eq_self, reduceCtorEq, reduceIte, Bool.true_eq_false, Bool.false_eq_true, false_implies, true_implies, and_true, true_and, ne_eq, not_false_eq_true, not_true_eq_false, List.all_cons, List.all_nil, Bool.and_self, Bool.not_true, Bool.not_false, List.map_cons, List.map_nil, List.length_cons, List.length_nil,
    lk_h Go.Proofs.Try.underlying54, mu_h Go.Proofs.Try.underlying54, md_h Go.Proofs.Try.underlying54, find_enc, set_enc, del_enc, all_enc, DV.plain, nv65, nv69, nv75, no57, no61,
    o_fn, dcl_some, env_cons, args_nil, args_cons, mk_called, mk_H, filter_isHp_nil, rp_done, rp_quiet, rpQ_succ, rpQ_zero, rp_acts, ra_nil, ra_cons, rpA_succ, rpA_zero, rcA_nil, rcA_cons, rcW_succ, rcW_zero, slL_nil, slL_cons, slW_succ, slW_zero, mk_unlink, dropLks, Pos.atSlot, Pos.isHp, Pos.inHp, Pos.inBox, Bool.or_false, Bool.false_or, Bool.or_true, Bool.true_or, List.filter_cons, ex_eq, ex_and, mk_t,
    q_move, q_assign, q_pick, q_load, q_nilCheck, q_bin, q_un, q_conv, q_fieldAddr, q_field, q_indexAddr, q_index, q_lookup, q_extract, q_len, q_max, q_min,
    Go.Proofs.Try.underlying55, Go.Proofs.Try.underlying58, Go.Proofs.Try.underlying59, Go.Proofs.Try.underlying45, apd_own, own_hp, ohp_some, ownSz_t, ownSz_f, own_slot, part_sl, part_tup0, un_hp, unh_some, un_slot, listRo_eq, List.set_cons_zero, List.set_cons_succ, List.getD_cons_zero, List.getD_cons_succ, List.getElem?_set_self', List.set_set, Function.const_apply, Option.map_some, Option.map_eq_map, bz55, bs55, bs58, bs59, ap55, ap58, ap59,
    bdk_eq, bd_nil, bqk, bq_nil, List.append_assoc,
    ret_none, ret_none', ret_one, ret_one', ret_two,
    fp57_0, fl57_0, fv57_0, fp57_1, fl57_1, fv57_1, fp57_2, fl57_2, fv57_2, fp57_3, fl57_3, fv57_3, fp61_0, fl61_0, fv61_0, fp61_1, fl61_1, fv61_1, fp61_2, fl61_2, fv61_2, fp61_3, fl61_3, fv61_3, fp65_0, fl65_0, fv65_0, fp65_1, fl65_1, fv65_1, fp65_2, fl65_2, fv65_2, fp69_0, fl69_0, fv69_0, fp69_1, fl69_1, fv69_1, fp69_2, fl69_2, fv69_2, fp75_0, fl75_0, fv75_0, fp75_1, fl75_1, fv75_1, fp31_0, fl31_0, fv31_0, fp31_1, fl31_1, fv31_1, fp31_2, fl31_2, fv31_2, fp31_3, fl31_3, fv31_3, fp31_4, fl31_4, fv31_4, fp31_5, fl31_5, fv31_5, dl9, ix9, dl22, ix22, dl45, ix45, dl48, ix48, dl55, ix55, dl58, ix58, dl59, ix59, la2, la3, la4, la5, la9, la25, la27, la29, la45, la54, la55, la58, la59, la22, la48, la57, la61, la65, la69, la75, la31, lf9, lf9', kt9, ia2, cn2, us2, ia3, cn3, us3, ia4, cn4, us4, ia5, cn5, us5, ia9, cn9, us9, ia22, cn22, us22, ia25, cn25, us25, ia27, cn27, us27, ia29, cn29, us29, ia45, cn45, us45, ia48, cn48, us48, ia54, cn54, us54, ia55, cn55, us55, ia57, cn57, us57, ia58, cn58, us58, ia59, cn59, us59, ia61, cn61, us61, ia65, cn65, us65, ia69, cn69, us69, ia75, cn75, us75, ia31, cn31, us31, dl54h, enc_length, bd57, bq57, bd57_0, bq57_0, bd57_1, bq57_1, bd57_2, bq57_2, bd57_3, bq57_3, bd61, bq61, bd61_0, bq61_0, bd61_1, bq61_1, bd61_2, bq61_2, bd61_3, bq61_3, bd65, bq65, bd65_0, bq65_0, bd65_1, bq65_1, bd65_2, bq65_2, bd69, bq69, bd69_0, bq69_0, bd69_1, bq69_1, bd69_2, bq69_2, bd75, bq75, bd75_0, bq75_0, bd75_1, bq75_1, decide_eq_true_eq, decide_eq_false_iff_not, decide_not, Bool.not_eq_true', Bool.not_eq_false', Int.toNat_natCast]
    have hend2 : ¬ (i : Int) < s.length → (¬s = [] → K H (.bool (decide ((s.length : Int) ≤ 16)))) ∧ (s = [] → K H (.bool false)) := by
      intro h1
      have := hend h1
      refine ⟨fun h2 => ?_, fun h2 => ?_⟩
      · have e : decide ((s.length : Int) ≤ 16) = decide (s.length ≤ 16) := decide_eq_decide.2 (by omega)
        rw [e]; simpa [h2] using this
      · simpa [h2] using this
    refine ⟨fun h1 => ⟨by omega, h1, ?_⟩, hend2⟩
    generalize List.getD s i 0 = c at hbad hgood ⊢
    repeat' (first | apply And.intro | intro _)
    all_goals (first
      | exact hbad (by omega) (by simp [okC]; omega)
      | exact hgood (by omega) (by simp [okC]; omega))
end Go.Ab.Sh
