/- A part of the proofs that a law function returns true at every input; it has no condition of its own. -/
import Derived.Test.YtefaplodmbdhlaaOrQ
set_option linter.unusedSimpArgs false
set_option linter.unusedVariables false
/- OrR: The order laws: See. -/
namespace Go.Ab.Or
open Go Go.Conc Go.RowKit Go.Ab
set_option maxRecDepth 10000
noncomputable def b11 : Code := (Go.Proofs.Try.f11.body).getD .skip
theorem hb11 : Go.Proofs.Try.f11.body = some b11 := by kernel_rfl
def SSee : Spec := fun H args K => ∃ v lv ds, args = [v, .int .i64 lv] ∧ DealsV H v ds ∧ ∀ H', Fr H H' [] → K H' (.sl true 2 ((pairsF (seeF noF ds lv) [] []).map prD))
def MSee (H : List HObj) (v : DV) (l0 : Int) (ds : List MD) (m : Nat) (st : St) : Prop := ∃ (i : Nat) (H' : List HObj) (S : Sto) (B : List (Nat × Nat × List DV)), i ≤ ds.length ∧ m = ds.length - i ∧ FrB H.length H H' ∧ StAt H.length H' H.length S ∧
  (filesS S = seeF noF (ds.take i)) ∧ (B = [] ∨ ∃ g c, B = [(7, g, c)]) ∧ st = mk 25 [(1, .int .i64 l0), (5, .map H.length), (9, v), (10, .int .i64 ds.length), (11, .int .i64 i)] B H' []
set_option maxHeartbeats 8000000 in
theorem rcSee : RC (loneJ pp) 11 SSee := by
  have hI : ∀ w e, (loneJ pp).Ok w e := fun _ _ => trivial
  refine rc_of_code (isObj := isO) (Γ := envOf [(25, SPrs), (14, SWr)]) (rs := [4]) mixed hI (envOf_rc (by simpa using ⟨rcPrs, rcWr hI⟩)) Go.Proofs.Try.func11 (by kernel_rfl) hb11 Go.Proofs.Try.results11 Go.Proofs.Try.ntmps11 (by decide) ?_
  rintro H args K ⟨v, l0, ds, rfl, hv, hK⟩
  have hrow := hv.row
  have hlen := hv.len
  rcases hrow with rfl | ⟨id, off, cs, rfl, hid, hat⟩
  ·
    refine ⟨by simp, rfl, ?_⟩
    unfold b11 Go.Proofs.Try.f11
    simp only [Option.getD_some, argSlots, vro_sl, Nat.zero_add, vro_int, w_seq, w_region, mk_clean, tS_cons, g_none, hold_app, o_assign, take_const, constDV, Proofs.Try.underlying31, cn35, mk_put, dropLk, tS_nil, hold_app2, o_makeMap, mk_newMap, Nat.reduceLT, take_tmp, takK, look_hit, vroA_map, o_move, move_tmp, movK, Nat.reduceBEq, look_miss, lkGet, o_len, rho_tmp, dl24, List.length_map, mk_put?_some, move_const, vroA_int, w_block]
    refine w_loop [1, 5, 9, 10, 11] (MSee H (.sl false 5 ((ds.map fun x => x.1.cells).map .agg)) l0 ds) ds.length ?_ ?_
    · refine ⟨0, H ++ [HObj.map []], [], [], by omega, by omega, FrB.app _ (Nat.le_refl _), ⟨ap_get0, fun x hx => by simp at hx, by simp, by simp, Nat.le_refl _, fun x hx => by simp at hx⟩, rfl, .inl rfl, ?_⟩
      simp only [mk_forget, List.map_cons, Nat.reduceBEq, look_miss, look_hit, List.map_nil, nc0]; try rfl
    · rintro m st ⟨i, H', S, B, hi, rfl, hF, hSt, hfs, hB, rfl⟩
      obtain ⟨g, hb1, hb2⟩ := box1 hB
      have hfr := hF.fr
      have hgood := good_take hv.keys i GoodF.no
      have hws := wsum_take ds i
      have hsum := hv.sum
      have hgok := hgood.ok (n := 0 + wsum (ds.take i)) (by omega)
      rw [← hfs] at hgok
      by_cases e : i < ds.length
      · have e1 : (i : Int) < ds.length := by omega
        have e2 : (0 : Int) ≤ i := by omega
        have wi : IntKind.i64.wrap ((i : Int) + 1) = ((i + 1 : Nat) : Int) := by rw [wrap_i64 (by omega) (by omega)]; omega
        have hdw := hv.dw _ (List.getElem_mem e)
        have hseen := fold_step (F := noF) e
        rw [← hfs] at hseen
        obtain ⟨⟨D, rs, ws⟩, hD⟩ : ∃ x, ds[i] = x := ⟨_, rfl⟩
        have hD1 : (ds.map fun x => x.1.cells)[i]? = some D.cells := by simp [e, hD]
        rw [hD] at hdw hseen
        dsimp only at hdw hseen
        obtain ⟨a1, a2, a3, a4⟩ := hdw.ok
        have hww := hdw.w
        rcases D with ⟨lv, n, tn, r, w⟩
        dsimp only at hww hseen a1 a2 a3 a4
        subst hww
        have hx : ((ds.map fun x => x.1.cells).map DV.agg).getD i .undef = .agg [.int .i64 lv, .int .i64 n, .int .i64 tn, r, .sl false 3 (ws.map wrD)] := by
          simp only [List.getD, List.getElem?_map, hD1]; rfl
        simp only [w_seq, w_region, mk_clean, tS_cons, g_none, hold_app, o_bin, nil_tmp, Bool.false_eq_true, Nat.reduceLT, rho_tmp, Nat.reduceBEq, look_miss, look_hit, b_lss, e1, decide_true, mk_put?_some, dropLk, tS_nil, hold_app2, w_cond, cd_t, w_skip, w_block, o_indexAddr, ix24, e2, List.length_map, Int.toNat_natCast, hx, vcl_agg, o_load, ld_vptr, la30, List.length_cons, List.length_nil, Nat.zero_add, Nat.reduceAdd, Nat.reduceLeDiff, List.take_succ_cons, List.take_zero, List.map_cons, vro1_int, a1, vro1_sl, List.map_nil, lo_agg, al30, nv_if, isO_eq, Bool.or_self, hb1, hb2, if_false, o_store, take_tmp, takK, st_b, bget_cons, bget_nil, if_true, stb_some, Proofs.Try.underlying30, Option.isSome_some, cn30, List.all_cons, vsca_int, a2, vsca_sl, List.all_nil, Bool.and_self, putAt_eq, List.nil_append, List.drop_succ_cons, List.drop_nil, List.append_nil, mk_setB, bset_cons, bset_nil, Pos.inBox, List.filter_nil, o_move, move_tmp, movK, vroA_map, o_fieldAddr, fl30_0, Nat.add_zero, ld_b, dlb_some, List.drop_zero, la3, vro_int, lo_int, fl30_4, la27, vro_sl, lo_sl, addrPos, ia27, o_fn, args_cons, args_nil, mk_H, env_cons, Nat.reduceEqDiff, dcl_some, vfla_map, vfla_int, vfla_sl, vro_map, true_and]
        refine ⟨H.length, _, lv, _, ws, S, rfl, hSt, hF.1, hdw.wl, fun H3 S3 hF3 hSt3 hS3 => ?_⟩
        simp only [hold_app2, mk_called, Pos.isHp, List.filter_cons, Bool.not_false, List.filter_nil, if_true, mk_put?_some, dropLk, Nat.reduceBEq, Pos.atSlot, Bool.or_self, Bool.false_eq_true, if_false, hold_app, tS_nil, w_region, mk_clean, tS_cons, g_none, o_bin, nil_int, Nat.reduceLT, rho_tmp, look_miss, look_hit, rho_const, constDV, b_add, wi, o_move, move_tmp, movK, vroA_int, mk_forget, List.map_cons, List.map_nil]
        refine ⟨_, ?_, i + 1, H3, S3, _, by omega, rfl, hF.trans hF3, hSt3, ?_, .inr ⟨_, _, rfl⟩, rfl⟩
        · omega
        · rw [hseen]; funext l; exact hS3 l
      · have e0 : i = ds.length := by omega
        subst e0
        simp only [w_seq, w_region, mk_clean, tS_cons, g_none, hold_app, o_bin, nil_tmp, Bool.false_eq_true, Nat.reduceLT, rho_tmp, Nat.reduceBEq, look_miss, look_hit, b_lss, Int.lt_irrefl, decide_false, mk_put?_some, dropLk, tS_nil, hold_app2, w_cond, cd_f, w_exit, o_move, move_tmp, movK, vroA_map, vroA_int, o_fn, args_cons, rho_const, constDV, args_nil, mk_H, env_cons, Nat.reduceEqDiff, if_false, if_true, dcl_some, List.all_cons, vfla_map, vfla_int, vfla_str, List.all_nil, Bool.and_self, List.map_cons, vro_map, vro_int, vro_str, List.map_nil, true_and]
        refine ⟨H.length, _, l0, [], [], S, rfl, hSt, hgok l0, fun H3 hF3 => ?_⟩
        simp only [hold_app2, mk_called, Pos.isHp, List.filter_nil, mk_put?_some, dropLk, hold_app, tS_cons, g_none, o_assign, Nat.reduceLT, take_tmp, takK, look_hit, mk_put, tS_nil, w_ret, ret_one, vfla_sl, true_and]
        have := hK H3 (hF.trans (Fr.frB hF3 hF.1)).fr
        rw [hfs, List.take_length]
        exact this
  ·
    refine ⟨by simp, rfl, ?_⟩
    unfold b11 Go.Proofs.Try.f11
    simp only [Option.getD_some, argSlots, List.length_map, vro_hsl, Nat.zero_add, vro_int, w_seq, w_region, mk_clean, tS_cons, g_none, hold_app, o_assign, take_const, constDV, Proofs.Try.underlying31, cn35, mk_put, dropLk, tS_nil, hold_app2, o_makeMap, mk_newMap, Nat.reduceLT, take_tmp, takK, look_hit, vroA_map, o_move, move_tmp, movK, Nat.reduceBEq, look_miss, vroA_hsl, o_len, rho_tmp, dlh24, mk_put?_some, move_const, vroA_int, w_block]
    refine w_loop [1, 5, 9, 10, 11] (MSee H (.hsl id 5 off ds.length) l0 ds) ds.length ?_ ?_
    · refine ⟨0, H ++ [HObj.map []], [], [], by omega, by omega, FrB.app _ (Nat.le_refl _), ⟨ap_get0, fun x hx => by simp at hx, by simp, by simp, Nat.le_refl _, fun x hx => by simp at hx⟩, rfl, .inl rfl, ?_⟩
      simp only [mk_forget, List.map_cons, Nat.reduceBEq, look_miss, look_hit, List.map_nil, nc0]; try rfl
    · rintro m st ⟨i, H', S, B, hi, rfl, hF, hSt, hfs, hB, rfl⟩
      obtain ⟨g, hb1, hb2⟩ := box1 hB
      have hfr := hF.fr
      have hgood := good_take hv.keys i GoodF.no
      have hws := wsum_take ds i
      have hsum := hv.sum
      have hgok := hgood.ok (n := 0 + wsum (ds.take i)) (by omega)
      rw [← hfs] at hgok
      by_cases e : i < ds.length
      · have e1 : (i : Int) < ds.length := by omega
        have e2 : (0 : Int) ≤ i := by omega
        have wi : IntKind.i64.wrap ((i : Int) + 1) = ((i + 1 : Nat) : Int) := by rw [wrap_i64 (by omega) (by omega)]; omega
        have hdw := hv.dw _ (List.getElem_mem e)
        have hseen := fold_step (F := noF) e
        rw [← hfs] at hseen
        obtain ⟨⟨D, rs, ws⟩, hD⟩ : ∃ x, ds[i] = x := ⟨_, rfl⟩
        have hD1 : (ds.map fun x => x.1.cells)[i]? = some D.cells := by simp [e, hD]
        rw [hD] at hdw hseen
        dsimp only at hdw hseen
        obtain ⟨a1, a2, a3, a4⟩ := hdw.ok
        have hww := hdw.w
        rcases D with ⟨lv, n, tn, r, w⟩
        dsimp only at hww hseen a1 a2 a3 a4
        subst hww
        obtain ⟨r', rest, hy, hro⟩ := hat i _ hD1
        obtain ⟨r1, w1, rfl, hr1, hw1⟩ := dc_ro hro
        dsimp only at hr1 hw1
        have hy : cs.drop (off + i * 5) = .int .i64 lv :: .int .i64 n :: .int .i64 tn :: r1 :: w1 :: rest := hy
        have hid' : H'[id]? = some (.cells cs) := hfr.get hid (by simp)
        simp only [w_seq, w_region, mk_clean, tS_cons, g_none, hold_app, o_bin, nil_tmp, Bool.false_eq_true, Nat.reduceLT, rho_tmp, Nat.reduceBEq, look_miss, look_hit, b_lss, e1, decide_true, mk_put?_some, dropLk, tS_nil, hold_app2, w_cond, cd_t, w_skip, w_block, o_indexAddr, ixh24, e2, Int.toNat_natCast, o_load, ld_h, hid', dlh_some, hy, la30, List.length_cons, Nat.reduceLeDiff, List.take_succ_cons, List.take_zero, List.map_cons, vro1_int, hr1, hw1, List.map_nil, lo_agg, al30, nv_if, isO_eq, Bool.or_self, vcl_agg, hb1, hb2, if_false, o_store, take_tmp, takK, a1, vro1_sl, st_b, bget_cons, bget_nil, if_true, stb_some, Proofs.Try.underlying30, Option.isSome_some, List.length_nil, Nat.zero_add, Nat.reduceAdd, cn30, List.all_cons, vsca_int, a2, vsca_sl, List.all_nil, Bool.and_self, putAt_eq, List.nil_append, List.drop_succ_cons, List.drop_nil, List.append_nil, mk_setB, bset_cons, bset_nil, Pos.inBox, List.filter_nil, o_move, move_tmp, movK, vroA_map, o_fieldAddr, fl30_0, Nat.add_zero, ld_b, dlb_some, List.drop_zero, la3, vro_int, lo_int, fl30_4, la27, vro_sl, lo_sl, addrPos, ia27, o_fn, args_cons, args_nil, mk_H, env_cons, Nat.reduceEqDiff, dcl_some, vfla_map, vfla_int, vfla_sl, vro_map, true_and]
        refine ⟨H.length, _, lv, _, ws, S, rfl, hSt, hF.1, hdw.wl, fun H3 S3 hF3 hSt3 hS3 => ?_⟩
        simp only [hold_app2, mk_called, Pos.isHp, List.filter_cons, Bool.not_false, List.filter_nil, if_true, mk_put?_some, dropLk, Nat.reduceBEq, Pos.atSlot, Bool.or_self, Bool.false_eq_true, if_false, hold_app, tS_nil, w_region, mk_clean, tS_cons, g_none, o_bin, nil_int, Nat.reduceLT, rho_tmp, look_miss, look_hit, rho_const, constDV, b_add, wi, o_move, move_tmp, movK, vroA_int, mk_forget, List.map_cons, List.map_nil]
        refine ⟨_, ?_, i + 1, H3, S3, _, by omega, rfl, hF.trans hF3, hSt3, ?_, .inr ⟨_, _, rfl⟩, rfl⟩
        · omega
        · rw [hseen]; funext l; exact hS3 l
      · have e0 : i = ds.length := by omega
        subst e0
        simp only [w_seq, w_region, mk_clean, tS_cons, g_none, hold_app, o_bin, nil_tmp, Bool.false_eq_true, Nat.reduceLT, rho_tmp, Nat.reduceBEq, look_miss, look_hit, b_lss, Int.lt_irrefl, decide_false, mk_put?_some, dropLk, tS_nil, hold_app2, w_cond, cd_f, w_exit, o_move, move_tmp, movK, vroA_map, vroA_int, o_fn, args_cons, rho_const, constDV, args_nil, mk_H, env_cons, Nat.reduceEqDiff, if_false, if_true, dcl_some, List.all_cons, vfla_map, vfla_int, vfla_str, List.all_nil, Bool.and_self, List.map_cons, vro_map, vro_int, vro_str, List.map_nil, true_and]
        refine ⟨H.length, _, l0, [], [], S, rfl, hSt, hgok l0, fun H3 hF3 => ?_⟩
        simp only [hold_app2, mk_called, Pos.isHp, List.filter_nil, mk_put?_some, dropLk, hold_app, tS_cons, g_none, o_assign, Nat.reduceLT, take_tmp, takK, look_hit, mk_put, tS_nil, w_ret, ret_one, vfla_sl, true_and]
        have := hK H3 (hF.trans (Fr.frB hF3 hF.1)).fr
        rw [hfs, List.take_length]
        exact this
end Go.Ab.Or
