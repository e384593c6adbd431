/- A part of the proofs that a law function returns true at every input; it has no condition of its own. -/
import Derived.Test.YtoebbafmopdfbaaGreatDoorEnE
set_option linter.unusedSimpArgs false
set_option linter.unusedVariables false
/- EnF: The engine's laws: entries in memory between two keys. -/
namespace Go.Ab.En
open Go Go.Conc Go.RowKit Go.Ab
set_option maxRecDepth 10000
theorem box1 {s : Nat} {B : List (Nat × Nat × List DV)} (hB : B = [] ∨ ∃ g c, B = [(s, g, c)]) : ∃ g, bgen s B = g ∧ (∀ cs, bset s g cs B = [(s, g, cs)]) := by
  rcases hB with rfl | ⟨g, c, rfl⟩
  · exact ⟨0, rfl, fun _ => rfl⟩
  · exact ⟨g + 1, by simp [bgen, bget], fun _ => by simp [bset]⟩
theorem takeWhile_eq {α : Type} (p : α → Bool) (l : List α) (i : Nat) (h : i ≤ l.length) (h1 : ∀ j (h : j < l.length), j < i → p l[j] = true) (h2 : ∀ h : i < l.length, p l[i] = false) : l.takeWhile p = l.take i := by
  have := takeWhile_len p l i h h1 h2
  have hp := List.prefix_iff_eq_take.1 (List.takeWhile_prefix (l := l) p)
  rw [hp, this]
noncomputable def b102 : Code := (Go.Proofs.Tryz.f102.body).getD .skip
theorem hb102 : Go.Proofs.Tryz.f102.body = some b102 := by kernel_rfl
def inR (tk : Str) (e : Ent) : Bool := decide (tk = []) || Op.bytesLess e.key tk
def rangeE (es : List Ent) (fr tk : Str) : List Ent := (es.drop (firstE es fr 1000000)).takeWhile (inR tk)
def SHRange : Spec := fun H args K => ∃ (hp : Nat) (S : List Nat) (es : List Ent) (fr tk : Str), args = [.ptr hp 0, .str fr, .str tk] ∧ HeapAt H hp S es ∧ es.length < 100000000 ∧ ∀ H', Fr [] H H' → K H' (.sl true 4 (rowD (rangeE es fr tk)))
theorem appHRange {H : List HObj} {K : List HObj → DV → Prop} {hp : Nat} {S : List Nat} {es : List Ent} {fr tk : Str} (h1 : HeapAt H hp S es) (h2 : es.length < 100000000) (h : ∀ H', Fr [] H H' → K H' (.sl true 4 (rowD (rangeE es fr tk)))) : app SHRange H [.ptr hp 0, .str fr, .str tk] K := ⟨hp, S, es, fr, tk, rfl, h1, h2, h⟩
def MRg (H1 : List HObj) (id cap : Nat) (es : List Ent) (i0 : Nat) (tk : Str) (m : Nat) (st : St) : Prop := ∃ (j : Nat) (B : List (Nat × Nat × List DV)), j ≤ es.length - i0 ∧ m = es.length - i0 - j ∧ (∀ k (h : k < (es.drop i0).length), k < j → inR tk (es.drop i0)[k] = true) ∧ (B = [] ∨ ∃ g c, B = [(9, g, c)]) ∧
  st = mk 40 [(2, .str tk), (7, .sl true 4 (rowD ((es.drop i0).take j))), (20, .hsl id 4 (i0 * 4) (es.length - i0) (cap - i0)), (21, .int .i64 ((es.length - i0 : Nat) : Int)), (22, .int .i64 j)] B H1 []
set_option maxHeartbeats 1000000 in
theorem rcHRange {I : Jd pp} (hI : ∀ w e, I.Ok w e) (hC : RC I 135 SCs) : RC I 102 SHRange := by
  refine rc_of_code (isObj := noO) (Γ := envOf [(166, SFirst)]) (rs := [6]) mixed hI (envOf_rc (by simpa using rcFirst hI hC)) Go.Proofs.Tryz.func102 (by kernel_rfl) hb102 Go.Proofs.Tryz.results102 Go.Proofs.Tryz.ntmps102 (by decide) ?_
  rintro H args K ⟨hp, S, es, fr, tk, rfl, ⟨id, cap, b, h1, h2, h3, h4, h5, rfl, h7⟩, hl, hK⟩
  refine ⟨by simp, rfl, ?_⟩
  unfold b102 Go.Proofs.Tryz.f102
  simp only [Option.getD_some, argSlots, vro_ptr, Nat.zero_add, vro_str, Nat.reduceAdd, w_seq, w_region, mk_clean, tS_cons, g_none, hold_app, o_assign, take_const, constDV, Proofs.Tryz.underlying125, cn138, mk_put, dropLk, tS_nil, hold_app2, w_scope, w_label]
  refine w_draw [9, 10] (.quiet 0 (.quiet 1 (.quiet 2 (.quiet 3 (.quiet 4 (.quiet 5 (.quiet 6 (.quiet 7 (.quiet 8 (.quiet 12 (.acts [(9, [12, 3, 2, 1, 0], .acts [(10, [12], .quiet 11 (.done))])]))))))))))) (by decide) (by kernel_rfl) ?_
  simp only [mk_clean, rp_quiet, rpQ_zero, g_none, hold_app, q_move, Nat.reduceLT, rho_tmp, Nat.reduceBEq, look_miss, look_hit, vroA_ptr, ex_eq, mk_put, dropLk, rpQ_succ, q_nilCheck, dnil, q_fieldAddr, fp189_0, Nat.add_zero, q_load, ld_h, h1, dlh_some, List.drop_zero, la125, vro_hsl, vroA_str, rho_const, constDV, vroA_int, rp_acts, ra_cons, rpA_succ, rpA_zero, o_fn, args_cons, args_nil, mk_H, env_cons, if_true, dcl_some, List.all_cons, vfla_hsl, vfla_str, vfla_int, List.all_nil, Bool.and_self, List.map_cons, vro_str, vro_int, List.map_nil, true_and, ra_nil, and_true]
  refine appFirst es (.inr ⟨id, 0, cap, rfl, h2.row⟩) h7 (by omega) fun H1 f1 => ?_
  have g1 := f1.get h1 (by simp)
  have hfi := firstE_le es fr 1000000
  have hRe : rangeE es fr tk = (es.drop (firstE es fr 1000000)).takeWhile (inR tk) := rfl
  generalize firstE es fr 1000000 = i0 at hfi hRe
  have c0 : (0 : Int) ≤ i0 := by omega
  have c1 : (i0 : Int) ≤ es.length := by omega
  have hdl : (es.drop i0).length = es.length - i0 := by simp
  simp only [hold_app2, mk_called, Pos.isHp, List.filter_nil, mk_put?_some, dropLk, hold_app, rcA_cons, rcW_succ, rcW_zero, g_none, Nat.reduceLT, mk_t, Nat.reduceBEq, look_miss, look_hit, q_move, rho_const, constDV, vroA_int, q_load, rho_tmp, ld_h, g1, dlh_some, List.drop_zero, la125, vro_hsl, q_fieldAddr, fp189_0, Nat.add_zero, q_nilCheck, dnil, vroA_ptr, rcA_nil, and_true, slL_cons, slW_succ, slW_zero, slL_nil, mk_unlink, dropLks, rp_acts, ra_cons, rpA_succ, rpA_zero, o_slice, Option.map_some, Option.map_none, sch125, dbound, c0, c1, Int.toNat_natCast, Nat.zero_add, rp_quiet, rpQ_succ, rpQ_zero, q_len, dlh125, ex_eq, mk_put, rp_done, w_block, true_and, ra_nil]
  refine w_loop [2, 7, 20, 21, 22] (MRg H1 id cap es i0 tk) (es.length - i0) ?_ ?_
  · exact ⟨0, [], by omega, by omega, by intro k _ hk; omega, .inl rfl, by simp only [o_clo, clo_fn, dcl2_some, hold_app, hold_app2, move_tmp, move_const, take_tmp, take_const, rho_tmp, rho_const, mk_put, mk_put?_some, mk_put?_none, mk_setT, mk_newMap, mk_newFun, mk_forget, vro1_bool, vro_bool, vroA_bool, vcl_bool, vsca_bool, vfla_bool, vro1_int, vro_int, vroA_int, vcl_int, vsca_int, vfla_int, vro1_str, vro_str, vroA_str, vcl_str, vsca_str, vfla_str, vro1_sl, vro_sl, vroA_sl, vcl_sl, vsca_sl, vfla_sl, vro1_agg, vro_agg, vroA_agg, vcl_agg, vsca_agg, vfla_agg, List.map_cons, Nat.reduceBEq, vro1_undef, vro_undef, vroA_undef, vcl_undef, vsca_undef, vfla_undef, vro1_fn, vro_fn, vroA_fn, vcl_fn, vsca_fn, vfla_fn, vro1_hsl, vro_hsl, vroA_hsl, vcl_hsl, vsca_hsl, vfla_hsl, look_hit, look_miss, ext_tmp, pk, ex_0, ex_1, ex_2, lo_int, lo_str, lo_bool, lo_map, lo_ptr, lo_agg, lo_sl, lo_hsl, lo_fn, ld_vptr, ld_h, dlh_some, ld_b, dlb_some, st_h, sth_some, st_b, stb_some, onMap_some, bget_nil, bget_cons, bset_nil, bset_cons, List.map_nil, rowD, List.take_zero, putAt_eq, mk_setH, mk_setB, nv_if, bsl_t, bsl_f, apd_own, nc0, nc1, nc2, nc3, nc4, nc5, wrap_i64, wrap_u8, nil_tmp, nil_int, nil_str, nil_bool, nil_ptr, nil_map, nil_sl, b_add, b_sub, b_mul, b_rem, b_quo, b_eql, b_neq, b_lss, b_leq, b_gtr, b_geq, s_eql, s_neq, s_lss, s_geq, s_add, u_not, m_max, m_min, plain_str, plain_int, o_fn, dcl_some, env_cons, args_nil, args_cons]; try rfl⟩
  · rintro m st ⟨j, B, hj, rfl, hall, hB, rfl⟩
    obtain ⟨g, hb2, hb1⟩ := box1 hB
    by_cases e : j < es.length - i0
    · have e1 : (j : Int) < ((es.length - i0 : Nat) : Int) := by omega
      have e2 : (0 : Int) ≤ j := by omega
      have wi : IntKind.i64.wrap ((j : Int) + 1) = ((j + 1 : Nat) : Int) := by rw [wrap_i64 (by omega) (by omega)]; omega
      have hlt : i0 + j < es.length := by omega
      obtain ⟨cs, k1, k2⟩ := h2.row.2 (by rintro rfl; simp at hlt)
      have k3 := f1.get k1 (by simp)
      obtain ⟨r, d1⟩ := hrow_cells k2 hlt
      obtain ⟨x, hx⟩ : ∃ x, es[i0 + j] = x := ⟨_, rfl⟩
      rw [hx, Nat.zero_add, Nat.add_mul] at d1
      simp only [Ent.cells, List.cons_append, List.nil_append] at d1
      have hx2 : (es.drop i0)[j]'(by omega) = x := by rw [List.getElem_drop, hx]
      have ht : rowD ((es.drop i0).take j) ++ [.agg [.str x.key, .int .i64 x.seq, .bool x.del, .str x.val]] = rowD ((es.drop i0).take (j + 1)) := by
        rw [List.take_succ_eq_append_getElem (by omega), hx2]; simp [rowD, Ent.cells]
      have hrl : (rowD ((es.drop i0).take j)).length = j := by simp [rowD]; omega
      have goOn : inR tk x = true → ∀ k (h : k < (es.drop i0).length), k < j + 1 → inR tk (es.drop i0)[k] = true := by
        intro hin k h hk
        by_cases hkj : k = j
        · subst hkj; rw [hx2]; exact hin
        · exact hall k h (by omega)
      by_cases hto : tk = []
      · subst hto
        simp only [w_seq, w_region, mk_clean, tS_cons, g_none, hold_app, o_bin, nil_tmp, Bool.false_eq_true, Nat.reduceLT, rho_tmp, Nat.reduceBEq, look_miss, look_hit, b_lss, e1, decide_true, mk_put?_some, dropLk, tS_nil, hold_app2, w_cond, cd_t, w_skip, w_block, o_indexAddr, ixh125, e2, Int.toNat_natCast, o_load, ld_h, k3, dlh_some, d1, la138, List.length_cons, Nat.reduceLeDiff, List.take_succ_cons, List.take_zero, List.map_cons, vro1_str, vro1_int, vro1_bool, List.map_nil, lo_agg, al138, nv_if, isO_eq, vcl_agg, hb2, hb1, if_false, o_store, take_tmp, takK, st_b, bget_cons, bget_nil, if_true, stb_some, Proofs.Tryz.underlying138, Option.isSome_some, List.length_nil, Nat.zero_add, Nat.reduceAdd, cn138, List.all_cons, vsca_str, vsca_int, vsca_bool, List.all_nil, Bool.and_self, putAt_eq, List.nil_append, List.drop_succ_cons, List.drop_nil, List.append_nil, mk_setB, bset_cons, bset_nil, Pos.inBox, List.filter_nil, o_move, move_tmp, movK, vroA_str, nil_str, rho_const, constDV, s_neq, ne_eq, not_true_eq_false, decide_false, vroA_bool, g_some, gq_succ, gq_zero, gs1_eq, gs2_ft, mk_setT, o_pick, pk, vroA_tup, cd_f, Nat.reduceEqDiff, ld_b, dlb_some, List.drop_zero, Pos.atSlot, Bool.or_self, bs125_1, vro_agg, bsl_f, beq_self_eq_true, o_append, apo125_125, lkGet, own_slot, part_sl, ownSz_t, un_slot, vroA_sl, ap125_125, apd_own, hrl, ht, mk_put, o_assign, Bool.or_true, nil_int, b_add, wi, vroA_int, mk_forget, true_and]
        refine ⟨by omega, by omega, _, ?_, j + 1, _, by omega, rfl, goOn (by simp [inR]), .inr ⟨_, _, rfl⟩, rfl⟩
        omega
      · cases hb : Op.bytesLess x.key tk
        · simp only [w_seq, w_region, mk_clean, tS_cons, g_none, hold_app, o_bin, nil_tmp, Bool.false_eq_true, Nat.reduceLT, rho_tmp, Nat.reduceBEq, look_miss, look_hit, b_lss, e1, decide_true, mk_put?_some, dropLk, tS_nil, hold_app2, w_cond, cd_t, w_skip, w_block, o_indexAddr, ixh125, e2, Int.toNat_natCast, o_load, ld_h, k3, dlh_some, d1, la138, List.length_cons, Nat.reduceLeDiff, List.take_succ_cons, List.take_zero, List.map_cons, vro1_str, vro1_int, vro1_bool, List.map_nil, lo_agg, al138, nv_if, isO_eq, vcl_agg, hb2, hb1, if_false, o_store, take_tmp, takK, st_b, bget_cons, bget_nil, if_true, stb_some, Proofs.Tryz.underlying138, Option.isSome_some, List.length_nil, Nat.zero_add, Nat.reduceAdd, cn138, List.all_cons, vsca_str, vsca_int, vsca_bool, List.all_nil, Bool.and_self, putAt_eq, List.nil_append, List.drop_succ_cons, List.drop_nil, List.append_nil, mk_setB, bset_cons, bset_nil, Pos.inBox, List.filter_nil, o_move, move_tmp, movK, vroA_str, nil_str, rho_const, constDV, s_neq, ne_eq, hto, not_false_eq_true, vroA_bool, g_some, gq_succ, gq_zero, gs1_eq, gs2_tt, mk_setT, o_fieldAddr, fl138_0, Nat.add_zero, ld_b, dlb_some, List.drop_zero, la9, vro_str, lo_str, s_geq, hb, Bool.not_false, o_pick, pk, w_exit, reduceCtorEq, nil_int, b_add, wi, vroA_int, mk_forget, Nat.reduceEqDiff, o_assign, lkGet, own_slot, part_sl, ownSz_t, un_slot, vroA_sl, mk_put, Pos.atSlot, Bool.or_self, w_ret, ret_one, vfla_sl, true_and]
          have := hK _ f1
          rw [hRe, takeWhile_eq (inR tk) (es.drop i0) j (by omega) hall (fun h => by rw [hx2]; simp [inR, hto, hb])] at this
          exact this
        · simp only [w_seq, w_region, mk_clean, tS_cons, g_none, hold_app, o_bin, nil_tmp, Bool.false_eq_true, Nat.reduceLT, rho_tmp, Nat.reduceBEq, look_miss, look_hit, b_lss, e1, decide_true, mk_put?_some, dropLk, tS_nil, hold_app2, w_cond, cd_t, w_skip, w_block, o_indexAddr, ixh125, e2, Int.toNat_natCast, o_load, ld_h, k3, dlh_some, d1, la138, List.length_cons, Nat.reduceLeDiff, List.take_succ_cons, List.take_zero, List.map_cons, vro1_str, vro1_int, vro1_bool, List.map_nil, lo_agg, al138, nv_if, isO_eq, vcl_agg, hb2, hb1, if_false, o_store, take_tmp, takK, st_b, bget_cons, bget_nil, if_true, stb_some, Proofs.Tryz.underlying138, Option.isSome_some, List.length_nil, Nat.zero_add, Nat.reduceAdd, cn138, List.all_cons, vsca_str, vsca_int, vsca_bool, List.all_nil, Bool.and_self, putAt_eq, List.nil_append, List.drop_succ_cons, List.drop_nil, List.append_nil, mk_setB, bset_cons, bset_nil, Pos.inBox, List.filter_nil, o_move, move_tmp, movK, vroA_str, nil_str, rho_const, constDV, s_neq, ne_eq, hto, not_false_eq_true, vroA_bool, g_some, gq_succ, gq_zero, gs1_eq, gs2_tt, mk_setT, o_fieldAddr, fl138_0, Nat.add_zero, ld_b, dlb_some, List.drop_zero, la9, vro_str, lo_str, s_geq, hb, Bool.not_true, o_pick, pk, cd_f, Nat.reduceEqDiff, Pos.atSlot, Bool.or_self, bs125_1, vro_agg, bsl_f, beq_self_eq_true, o_append, apo125_125, lkGet, own_slot, part_sl, ownSz_t, un_slot, vroA_sl, ap125_125, apd_own, hrl, ht, mk_put, o_assign, Bool.or_true, nil_int, b_add, wi, vroA_int, mk_forget, true_and]
          refine ⟨by omega, by omega, _, ?_, j + 1, _, by omega, rfl, goOn (by simp [inR, hb]), .inr ⟨_, _, rfl⟩, rfl⟩
          omega
    · obtain rfl : j = es.length - i0 := by omega
      have e1 : ¬ ((es.length - i0 : Nat) : Int) < ((es.length - i0 : Nat) : Int) := by omega
      simp only [w_seq, w_region, mk_clean, tS_cons, g_none, hold_app, o_bin, nil_tmp, Bool.false_eq_true, Nat.reduceLT, rho_tmp, Nat.reduceBEq, look_miss, look_hit, b_lss, e1, decide_false, mk_put?_some, dropLk, tS_nil, hold_app2, w_cond, cd_f, w_exit, o_move, move_tmp, movK, Nat.reduceEqDiff, if_false, o_assign, take_tmp, takK, lkGet, if_true, own_slot, part_sl, ownSz_t, un_slot, vroA_sl, mk_put, Pos.atSlot, Bool.or_self, w_ret, ret_one, vfla_sl, true_and]
      have := hK _ f1
      rw [hRe, takeWhile_eq (inR tk) (es.drop i0) (es.length - i0) (by omega) hall (fun h => by omega)] at this
      exact this
end Go.Ab.En

/- EnH: The engine's laws: bytes sealed. -/
namespace Go.Ab.En
open Go Go.Conc Go.RowKit Go.Ab
set_option maxRecDepth 10000
def isY : ObjT := fun t => t == 36
theorem isY_eq {t : TypeId} : isY t = (t == 36) := _root_.id rfl
noncomputable def b186 : Code := (Go.Proofs.Tryz.f186.body).getD .skip
theorem hb186 : Go.Proofs.Tryz.f186.body = some b186 := by kernel_rfl
def byt (n : Int) : UInt8 := UInt8.ofNat (IntKind.u8.wrap n).toNat
def bytes4 (n : Int) : Str := [byt (((n.fdiv 256).fdiv 256).fdiv 256), byt ((n.fdiv 256).fdiv 256), byt (n.fdiv 256), byt n]
def SB4 : Spec := fun H args K => ∃ n : Int, args = [.int .u32 n] ∧ ∀ H', Fr [] H H' → K H' (.str (bytes4 n))
theorem appB4 {H : List HObj} {K : List HObj → DV → Prop} {n : Int} (h : ∀ H', Fr [] H H' → K H' (.str (bytes4 n))) : app SB4 H [.int .u32 n] K := ⟨n, rfl, h⟩
theorem rcB4 {I : Jd pp} (hI : ∀ w e, I.Ok w e) : RC I 186 SB4 := by
  refine rc_of_code (isObj := isY) (Γ := envOf []) (rs := [2]) mixed hI (envOf_rc (by simp)) Go.Proofs.Tryz.func186 (by kernel_rfl) hb186 Go.Proofs.Tryz.results186 Go.Proofs.Tryz.ntmps186 (by decide) ?_
  rintro H args K ⟨n, rfl, hK⟩
  refine ⟨by simp, rfl, ?_⟩
  unfold b186 Go.Proofs.Tryz.f186
  simp only [Option.getD_some, argSlots, vro_int, w_seq, w_region, mk_clean, tS_cons, g_none, hold_app, o_assign, take_const, constDV, mk_put, dropLk, tS_nil, hold_app2, mk36, isY_eq, beq_self_eq_true, rho_const, mkS_t, Int.reduceLE, Int.reduceToNat, Nat.reduceMul, Nat.reduceLeDiff, List.replicate_succ, List.replicate_zero, List.flatten_cons, List.flatten_nil, List.append_nil, List.cons_append, List.nil_append, Nat.reduceLT, take_tmp, takK, look_hit, vroA_hsl, w_block, true_and]
  refine w_unroll 5 ?_
  have w1 : IntKind.i64.wrap 2 = 2 := by decide
  simp only [lw_succ, w_seq, w_region, mk_clean, tS_cons, g_none, hold_app, o_move, Nat.reduceLT, move_tmp, movK, look_hit, vroA_int, dropLk, o_bin, nil_int, Bool.false_eq_true, rho_tmp, rho_const, constDV, b_geq, Int.reduceLE, decide_true, mk_put?_some, tS_nil, hold_app2, w_cond, cd_t, w_skip, w_block, Nat.reduceBEq, look_miss, vroA_hsl, o_conv, cv243_5, o_indexAddr, ixh36, nc4, Int.reduceLT, Int.reduceToNat, Nat.reduceMul, Nat.zero_add, o_store, take_tmp, takK, st_h, ap_get0, sth_some, Proofs.Tryz.underlying5, Option.isSome_some, vcl_int, List.length_cons, List.length_nil, cn5, List.all_cons, vsca_int, List.all_nil, Bool.and_self, Nat.reduceAdd, Nat.reduceLeDiff, putAt_eq, List.take_succ_cons, List.take_zero, List.cons_append, List.nil_append, List.drop_succ_cons, List.drop_nil, List.append_nil, mk_setH, ap_set0, Pos.inHp, List.filter_nil, b_shr8, o_assign, mk_put, b_sub, Int.reduceSub, Int.reduceNeg, wrap_i64, List.drop_zero, Nat.zero_mul, Nat.add_zero, decide_false, cd_f, w_exit, cvh36_9, cvh_some, vroA_str, w_ret, ret_one, vfla_str, true_and, if_true, if_false]
  exact ⟨_, rfl, hK _ (Fr.app _ _ _)⟩
noncomputable def b139 : Code := (Go.Proofs.Tryz.f139.body).getD .skip
theorem hb139 : Go.Proofs.Tryz.f139.body = some b139 := by kernel_rfl
def sealB (s : Str) : Str := numB s.length ++ bytes4 (sumF s) ++ s
def SSeal : Spec := fun H args K => ∃ s : Str, args = [.str s] ∧ s.length < 4000000000000000000 ∧ ∀ H', Fr [] H H' → K H' (.str (sealB s))
theorem appSeal {H : List HObj} {K : List HObj → DV → Prop} {s : Str} (h1 : s.length < 4000000000000000000) (h : ∀ H', Fr [] H H' → K H' (.str (sealB s))) : app SSeal H [.str s] K := ⟨s, rfl, h1, h⟩
theorem rcSeal {I : Jd pp} (hI : ∀ w e, I.Ok w e) : RC I 139 SSeal := by
  refine rc_of_code (isObj := noO) (Γ := envOf [(137, SNum), (187, SSum), (186, SB4)]) (rs := [2]) mixed hI (envOf_rc (by simpa using ⟨rcNum hI, rcSum hI, rcB4 hI⟩)) Go.Proofs.Tryz.func139 (by kernel_rfl) hb139 Go.Proofs.Tryz.results139 Go.Proofs.Tryz.ntmps139 (by decide) ?_
  rintro H args K ⟨s, rfl, hs, hK⟩
  refine ⟨by simp, rfl, ?_⟩
  unfold b139 Go.Proofs.Tryz.f139
  simp only [Option.getD_some, argSlots, vro_str, w_seq, w_region, mk_clean, tS_cons, g_none, hold_app, o_assign, take_const, constDV, mk_put, dropLk, tS_nil, hold_app2, o_move, Nat.reduceLT, move_tmp, movK, Nat.reduceBEq, look_miss, look_hit, vroA_str, o_len, rho_tmp, dl9, mk_put?_some, o_fn, args_cons, args_nil, mk_H, env_cons, Nat.reduceEqDiff, if_false, if_true, dcl_some, List.all_cons, vfla_int, List.all_nil, Bool.and_self, List.map_cons, vro_int, List.map_nil, true_and]
  refine appNum (by omega) ?_
  simp only [hold_app2, mk_called, Pos.isHp, List.filter_nil, mk_put?_some, dropLk, hold_app, tS_cons, g_none, o_move, Nat.reduceLT, move_tmp, movK, Nat.reduceBEq, look_miss, look_hit, vroA_str, o_fn, args_cons, rho_tmp, args_nil, mk_H, env_cons, Nat.reduceEqDiff, if_false, if_true, dcl_some, List.all_cons, vfla_str, List.all_nil, Bool.and_self, List.map_cons, vro_str, List.map_nil, true_and]
  refine appSum (by omega) ?_
  simp only [hold_app2, mk_called, Pos.isHp, List.filter_nil, mk_put?_some, dropLk, hold_app, tS_cons, g_none, o_fn, args_cons, Nat.reduceLT, rho_tmp, look_hit, args_nil, mk_H, env_cons, Nat.reduceEqDiff, if_true, if_false, dcl_some, List.all_cons, vfla_int, List.all_nil, Bool.and_self, List.map_cons, vro_int, List.map_nil, true_and]
  refine appB4 fun H' f => ?_
  have := numB_len s.length
  have h4 : (bytes4 (sumF s)).length = 4 := rfl
  simp only [hold_app2, mk_called, Pos.isHp, List.filter_nil, mk_put?_some, dropLk, hold_app, tS_cons, g_none, o_bin, nil_tmp, Bool.false_eq_true, Nat.reduceLT, rho_tmp, Nat.reduceBEq, look_miss, look_hit, s_add, o_move, move_tmp, movK, vroA_str, List.append_assoc, o_assign, take_tmp, takK, mk_put, tS_nil, w_ret, ret_one, vfla_str, true_and, if_false]
  refine ⟨by omega, by simp only [List.length_append]; omega, ?_⟩
  have := hK H' f
  simpa only [sealB, List.append_assoc] using this
end Go.Ab.En
