/- A part of the proofs that a law function returns true at every input; it has no condition of its own. -/
import Derived.Test.YtefaplodmbdhlaaOrP
set_option linter.unusedSimpArgs false
set_option linter.unusedVariables false
/- OrQ: The order laws: Explains. -/
namespace Go.Ab.Or
open Go Go.Conc Go.RowKit Go.Ab
set_option maxRecDepth 10000
theorem fold_step {F : Int → Option Files} {ds : List MD} : ∀ {i : Nat} (h : i < ds.length), seeF F (ds.take (i + 1)) = updF (seeF F (ds.take i)) ds[i].1.lv ds[i].2.2 := by
  induction ds generalizing F with
  | nil => intro i h; simp at h
  | cons x r ih =>
    obtain ⟨a, rs, ws⟩ := x
    intro i h
    cases i with
    | zero => simp [seeF]
    | succ i => simpa [seeF] using ih (F := updF F a.lv ws) (i := i) (by simpa using h)
theorem expl_step {F : Int → Option Files} {ds : List MD} {i : Nat} (h : i < ds.length) (he : explF F ds = explF (seeF F (ds.take i)) (ds.drop i)) :
    explF F ds = (ds[i].2.1.all (fun x => decide (readF (seeF F (ds.take i)) x = x.pairs)) && explF (seeF F (ds.take (i + 1))) (ds.drop (i + 1))) := by
  rw [he, fold_step h, List.drop_eq_getElem_cons h]
  rfl
theorem good_take {ds : List MD} (hk : ∀ x ∈ ds, ∀ w ∈ x.2.2, w.key.length ≤ maxLen) : ∀ (i : Nat) {n : Nat} {F : Int → Option Files}, GoodF n F → GoodF (n + wsum (ds.take i)) (seeF F (ds.take i)) := by
  induction ds with
  | nil => intro i n F h; simpa [seeF, wsum] using h
  | cons x r ih =>
    obtain ⟨a, rs, ws⟩ := x
    intro i n F h
    cases i with
    | zero => simpa [seeF, wsum] using h
    | succ i =>
      have := ih (fun x hx => hk x (List.mem_cons_of_mem _ hx)) i (h.upd (lv := a.lv) (hk (a, rs, ws) (by simp)))
      simpa [seeF, wsum, Nat.add_assoc] using this
theorem wsum_take (ds : List MD) (i : Nat) : wsum (ds.take i) ≤ wsum ds := by
  induction ds generalizing i with
  | nil => simp [wsum]
  | cons x r ih =>
    cases i with
    | zero => simp [wsum]
    | succ i => simpa [wsum] using ih i
noncomputable def b7 : Code := (Go.Proofs.Try.f7.body).getD .skip
theorem hb7 : Go.Proofs.Try.f7.body = some b7 := by kernel_rfl
def SExp : Spec := fun H args K => ∃ v ds, args = [v] ∧ DealsV H v ds ∧ ∀ H', Fr H H' [] → K H' (.bool (explF noF ds))
def B57 (s s2 : Nat) (B : List (Nat × Nat × List DV)) : Prop := B = [] ∨ (∃ g c, B = [(s, g, c)]) ∨ ∃ g c g2 c2, B = [(s, g, c), (s2, g2, c2)]
def MExp (H : List HObj) (v : DV) (ds : List MD) (m : Nat) (st : St) : Prop := ∃ (i : Nat) (H' : List HObj) (S : Sto) (B : List (Nat × Nat × List DV)), i ≤ ds.length ∧ m = ds.length - i ∧ FrB H.length H H' ∧ StAt H.length H' H.length S ∧
  (filesS S = seeF noF (ds.take i)) ∧ explF noF ds = explF (seeF noF (ds.take i)) (ds.drop i) ∧ B57 5 7 B ∧ st = mk 37 [(3, .map H.length), (9, v), (10, .int .i64 ds.length), (11, .int .i64 i)] B H' []
def MEx2 (H : List HObj) (v rv : DV) (n i : Nat) (S : Sto) (g : Nat) (dc : List DV) (rs : List RD) (m : Nat) (st : St) : Prop := ∃ (k : Nat) (H' : List HObj) (T : List (Nat × Nat × List DV)), k ≤ rs.length ∧ m = rs.length - k ∧ FrB H.length H H' ∧ StAt H.length H' H.length S ∧
  ((rs.take k).all (fun x => decide (readF (filesS S) x = x.pairs)) = true) ∧ (T = [] ∨ ∃ g2 c2, T = [(7, g2, c2)]) ∧
  st = mk 37 [(3, .map H.length), (5, .lptr 5 g 0), (9, v), (10, .int .i64 n), (11, .int .i64 i), (16, rv), (17, .int .i64 rs.length), (18, .int .i64 k)] ((5, g, dc) :: T) H' []
set_option maxHeartbeats 8000000 in
theorem rcExp : RC (loneJ pp) 7 SExp := by
  have hI : ∀ w e, (loneJ pp).Ok w e := fun _ _ => trivial
  refine rc_of_code (isObj := isO) (Γ := envOf [(13, SRd), (12, SSame 2 prD), (14, SWr)]) (rs := [2]) mixed hI (envOf_rc (by simpa using ⟨rcRd, rcEqualP hI, rcWr hI⟩)) Go.Proofs.Try.func7 (by kernel_rfl) hb7 Go.Proofs.Try.results7 Go.Proofs.Try.ntmps7 (by decide) ?_
  rintro H args K ⟨v, ds, rfl, hv, hK⟩
  have hrow := hv.row
  have hlen := hv.len
  rcases hrow with rfl | ⟨id, off, cs, rfl, hid, hat⟩
  ·
    refine ⟨by simp, rfl, ?_⟩
    unfold b7 Go.Proofs.Try.f7
    simp only [Option.getD_some, argSlots, vro_sl, w_seq, w_region, mk_clean, tS_cons, g_none, hold_app, o_assign, take_const, constDV, mk_put, dropLk, tS_nil, hold_app2, o_makeMap, mk_newMap, Nat.reduceLT, take_tmp, takK, look_hit, vroA_map, o_move, move_tmp, movK, Nat.reduceBEq, look_miss, lkGet, o_len, rho_tmp, dl24, List.length_map, mk_put?_some, move_const, vroA_int, w_block]
    refine w_loop [3, 9, 10, 11] (MExp H (.sl false 5 ((ds.map fun x => x.1.cells).map .agg)) ds) ds.length ?_ ?_
    · refine ⟨0, H ++ [HObj.map []], [], [], by omega, by omega, FrB.app _ (Nat.le_refl _), ⟨ap_get0, fun x hx => by simp at hx, by simp, by simp, Nat.le_refl _, fun x hx => by simp at hx⟩, rfl, rfl, .inl rfl, ?_⟩
      simp only [mk_forget, List.map_cons, Nat.reduceBEq, look_miss, look_hit, List.map_nil, nc0]; try rfl
    · rintro m st ⟨i, H', S, B, hi, rfl, hF, hSt, hfs, hex, hB, rfl⟩
      obtain ⟨g, T, hb1, hb2, hT⟩ := box57 hB
      by_cases e : i < ds.length
      · have e1 : (i : Int) < ds.length := by omega
        have e2 : (0 : Int) ≤ i := by omega
        have wi : IntKind.i64.wrap ((i : Int) + 1) = ((i + 1 : Nat) : Int) := by rw [wrap_i64 (by omega) (by omega)]; omega
        have hfr := hF.fr
        have hdw := hv.dw _ (List.getElem_mem e)
        have hkw := hv.keys _ (List.getElem_mem e)
        have hexs := expl_step e hex
        have hseen := fold_step (F := noF) e
        have hgood := good_take hv.keys i GoodF.no
        have hws := wsum_take ds i
        have hsum := hv.sum
        have hgok := hgood.ok (n := 0 + wsum (ds.take i)) (by omega)
        rw [← hfs] at hexs hseen hgok
        obtain ⟨⟨D, rs, ws⟩, hD⟩ : ∃ x, ds[i] = x := ⟨_, rfl⟩
        have hD1 : (ds.map fun x => x.1.cells)[i]? = some D.cells := by simp [e, hD]
        rw [hD] at hdw hkw hexs hseen
        dsimp only at hdw hkw hexs hseen
        obtain ⟨a1, a2, a3, a4⟩ := hdw.ok
        have hrr := hdw.r
        have hww := hdw.w
        rcases D with ⟨lv, n, tn, r, w⟩
        dsimp only at hrr hww hexs hseen a1 a2 a3 a4
        subst hww
        have hx : ((ds.map fun x => x.1.cells).map DV.agg).getD i .undef = .agg [.int .i64 lv, .int .i64 n, .int .i64 tn, r, .sl false 3 (ws.map wrD)] := by
          simp only [List.getD, List.getElem?_map, hD1]; rfl
        rcases hrr with rfl | ⟨id2, off2, cs2, rfl, hid2, hat2⟩
        · simp only [w_seq, w_region, mk_clean, tS_cons, g_none, hold_app, o_bin, nil_tmp, Bool.false_eq_true, Nat.reduceLT, rho_tmp, Nat.reduceBEq, look_miss, look_hit, b_lss, e1, decide_true, mk_put?_some, dropLk, tS_nil, hold_app2, w_cond, cd_t, w_skip, w_block, o_indexAddr, ix24, e2, List.length_map, Int.toNat_natCast, hx, vcl_agg, o_load, ld_vptr, la30, List.length_cons, List.length_nil, Nat.zero_add, Nat.reduceAdd, Nat.reduceLeDiff, List.take_succ_cons, List.take_zero, List.map_cons, vro1_int, vro1_sl, List.map_nil, lo_agg, al30, nv_if, isO_eq, Bool.or_self, hb1, hb2, if_false, o_store, take_tmp, takK, st_b, bget_cons, if_true, stb_some, Proofs.Try.underlying30, Option.isSome_some, cn30, List.all_cons, vsca_int, vsca_sl, List.all_nil, Bool.and_self, putAt_eq, List.nil_append, List.drop_succ_cons, List.drop_nil, List.append_nil, mk_setB, bset_cons, Pos.inBox, List.filter_nil, o_fieldAddr, fl30_3, ld_b, dlb_some, List.drop_zero, la28, vro_sl, lo_sl, addrPos, ia28, o_len, dl28, Pos.atSlot, o_move, move_const, constDV, vroA_int, true_and]
          refine w_loop [3, 5, 9, 10, 11, 16, 17, 18] (MEx2 H (.sl false 5 ((ds.map fun x => x.1.cells).map .agg)) (.sl false 5 ((rs.map RD.cells).map .agg)) ds.length i S g [.int .i64 lv, .int .i64 n, .int .i64 tn, (.sl false 5 ((rs.map RD.cells).map .agg)), .sl false 3 (ws.map wrD)] rs) rs.length ?_ ?_
          · refine ⟨0, H', T, by omega, by omega, hF, hSt, rfl, hT, ?_⟩
            simp only [mk_forget, List.map_cons, Nat.reduceBEq, look_miss, look_hit, List.map_nil, nc0]; try rfl
          · rintro m st ⟨k, H2, T2, hk, rfl, hF2, hSt2, hall, hT2, rfl⟩
            obtain ⟨g2, hb3, hb4⟩ := box7 (s := 5) (g := g) (cs := [.int .i64 lv, .int .i64 n, .int .i64 tn, (.sl false 5 ((rs.map RD.cells).map .agg)), .sl false 3 (ws.map wrD)]) (by decide) hT2
            have hrl := hdw.rl
            by_cases f : k < rs.length
            · have f1 : (k : Int) < rs.length := by omega
              have f2 : (0 : Int) ≤ k := by omega
              have wk : IntKind.i64.wrap ((k : Int) + 1) = ((k + 1 : Nat) : Int) := by rw [wrap_i64 (by omega) (by omega)]; omega
              have hpl := hdw.pl _ (List.getElem_mem f)
              have hstep : (rs.take (k + 1)).all (fun x => decide (readF (filesS S) x = x.pairs)) = decide (readF (filesS S) rs[k] = rs[k].pairs) := by
                rw [List.take_succ_eq_append_getElem f, List.all_append, hall]; simp
              have hfail : decide (readF (filesS S) rs[k] = rs[k].pairs) = false → rs.all (fun x => decide (readF (filesS S) x = x.pairs)) = false := fun hc => by
                rw [List.all_eq_false]; exact ⟨_, List.getElem_mem f, by simpa using hc⟩
              obtain ⟨R, hR⟩ : ∃ x, rs[k] = x := ⟨_, rfl⟩
              have hR1 : (rs.map RD.cells)[k]? = some R.cells := by simp [f, hR]
              rw [hR] at hpl hstep hfail
              have hz : ((rs.map RD.cells).map DV.agg).getD k .undef = .agg [.int .i64 R.lv, .bool R.scan, .str R.fr, .str R.to, .sl false 2 (R.pairs.map prD)] := by
                simp only [List.getD, List.getElem?_map, hR1]; rfl
              simp only [w_seq, w_region, mk_clean, tS_cons, g_none, hold_app, o_bin, nil_tmp, Bool.false_eq_true, Nat.reduceLT, rho_tmp, Nat.reduceBEq, look_miss, look_hit, b_lss, f1, decide_true, mk_put?_some, dropLk, tS_nil, hold_app2, w_cond, cd_t, w_skip, w_block, o_indexAddr, ix28, f2, List.length_map, Int.toNat_natCast, hz, vcl_agg, o_load, ld_vptr, la33, List.length_cons, List.length_nil, Nat.zero_add, Nat.reduceAdd, Nat.reduceLeDiff, List.take_succ_cons, List.take_zero, List.map_cons, vro1_int, vro1_bool, vro1_str, vro1_sl, List.map_nil, lo_agg, al33, nv_if, isO_eq, Bool.or_self, hb3, hb4, if_false, o_store, take_tmp, takK, st_b, bget_cons, Nat.reduceEqDiff, bget_nil, if_true, stb_some, Proofs.Try.underlying33, Option.isSome_some, cn33, List.all_cons, vsca_int, vsca_bool, vsca_str, vsca_sl, List.all_nil, Bool.and_self, putAt_eq, List.nil_append, List.drop_succ_cons, List.drop_nil, List.append_nil, mk_setB, bset_cons, bset_nil, Pos.inBox, List.filter_nil, true_and]
              refine w_draw [2, 5] (.quiet 0 (.quiet 1 (.quiet 3 (.quiet 4 (.acts [(2, [4, 3], .acts [(5, [], .quiet 6 (.done))])]))))) (by decide) (by kernel_rfl) ?_
              simp only [mk_clean, rp_quiet, rpQ_zero, g_none, hold_app, q_move, Nat.reduceLT, rho_tmp, Nat.reduceBEq, look_miss, look_hit, vroA_map, ex_eq, mk_put, dropLk, rpQ_succ, q_load, ld_b, bget_cons, Nat.reduceEqDiff, bget_nil, if_true, if_false, dlb_some, List.drop_zero, la33, List.length_cons, List.length_nil, Nat.zero_add, Nat.reduceAdd, Nat.reduceLeDiff, List.take_succ_cons, List.take_zero, List.map_cons, vro1_int, vro1_bool, vro1_str, vro1_sl, List.map_nil, true_and, q_fieldAddr, fl33_4, List.drop_succ_cons, la31, vro_sl, rp_acts, ra_cons, rpA_succ, rpA_zero, o_fn, args_cons, args_nil, mk_H, env_cons, dcl_some, List.all_cons, vfla_map, vfla_agg, List.all_nil, Bool.and_self, vro_map, vro_agg, ra_nil, and_true]
              refine ⟨_, _, R, S, rfl, hSt2, fun fs h => hgok R.lv fs h, fun H3 own hF3 => ?_⟩
              simp only [hold_app2, mk_called, Pos.isHp, List.filter_nil, mk_put?_some, dropLk, hold_app, rcA_cons, rcW_succ, rcW_zero, g_none, Nat.reduceLT, mk_t, Nat.reduceBEq, look_miss, look_hit, q_load, rho_tmp, ld_b, bget_cons, Nat.reduceEqDiff, bget_nil, if_true, if_false, dlb_some, List.drop_succ_cons, List.drop_zero, la31, vro_sl, and_true, q_fieldAddr, fl33_4, Nat.zero_add, rcA_nil, slL_cons, slW_succ, slW_zero, slL_nil, mk_unlink, dropLks, rp_acts, ra_cons, rpA_succ, rpA_zero, o_fn, args_cons, args_nil, mk_H, env_cons, dcl_some, List.all_cons, vfla_sl, List.all_nil, Bool.and_self, List.map_cons, List.map_nil, true_and, ra_nil]
              refine appSame (readF_len _ _) hpl ?_
              have hF23 := hF2.trans (Fr.frB hF3 hF2.1)
              by_cases hq : readF (filesS S) R = R.pairs
              · simp only [hq, decide_true, hold_app2, mk_called, Pos.isHp, List.filter_nil, mk_put?_some, dropLk, hold_app, rcA_nil, slL_nil, mk_unlink, dropLks, rp_quiet, rpQ_succ, rpQ_zero, g_none, q_un, Nat.reduceLT, rho_tmp, look_hit, u_not, Bool.not_true, ex_eq, mk_put, rp_done, w_cond, cd_f, w_skip, w_region, mk_clean, tS_cons, o_bin, nil_int, Bool.false_eq_true, Nat.reduceBEq, look_miss, rho_const, constDV, b_add, wk, o_move, move_tmp, movK, vroA_int, tS_nil, mk_forget, List.map_cons, List.map_nil, if_false, true_and]
                refine ⟨_, ?_, k + 1, H3, _, by omega, rfl, hF23, hSt2.fr hF3, ?_, .inr ⟨_, _, rfl⟩, rfl⟩
                · omega
                · rw [hstep]; simpa using hq
              · simp only [hq, decide_false, hold_app2, mk_called, Pos.isHp, List.filter_nil, mk_put?_some, dropLk, hold_app, rcA_nil, slL_nil, mk_unlink, dropLks, rp_quiet, rpQ_succ, rpQ_zero, g_none, q_un, Nat.reduceLT, rho_tmp, look_hit, u_not, Bool.not_false, ex_eq, mk_put, rp_done, w_cond, cd_t, w_seq, w_region, mk_clean, tS_cons, o_assign, take_const, constDV, tS_nil, w_ret, ret_one, vfla_bool, true_and]
                have := hK H3 hF23.fr
                rw [hexs, hfail (by simpa using hq)] at this
                exact this
            · have e0 : k = rs.length := by omega
              subst e0
              rw [List.take_length] at hall
              simp only [w_seq, w_region, mk_clean, tS_cons, g_none, hold_app, o_bin, nil_tmp, Bool.false_eq_true, Nat.reduceLT, rho_tmp, Nat.reduceBEq, look_miss, look_hit, b_lss, Int.lt_irrefl, decide_false, mk_put?_some, dropLk, tS_nil, hold_app2, w_cond, cd_f, w_exit, o_move, move_tmp, movK, vroA_map, o_fieldAddr, fl30_0, Nat.add_zero, o_load, ld_b, bget_cons, if_true, dlb_some, List.drop_zero, la3, vro_int, lo_int, fl30_4, Nat.zero_add, List.drop_succ_cons, la27, vro_sl, lo_sl, addrPos, ia27, if_false, o_fn, args_cons, args_nil, mk_H, env_cons, Nat.reduceEqDiff, dcl_some, List.all_cons, vfla_map, vfla_int, vfla_sl, List.all_nil, Bool.and_self, List.map_cons, vro_map, List.map_nil, true_and, nil_int, rho_const, constDV, b_add, vroA_int, mk_forget, reduceCtorEq, o_assign, take_const, mk_put, w_ret, ret_one, vfla_bool]
              refine ⟨H.length, _, lv, _, ws, S, rfl, hSt2, hF2.1, hdw.wl, fun H3 S3 hF3 hSt3 hS3 => ?_⟩
              simp only [hold_app2, mk_called, Pos.isHp, List.filter_cons, Bool.not_false, List.filter_nil, if_true, mk_put?_some, dropLk, Nat.reduceBEq, Pos.atSlot, Bool.or_self, Bool.false_eq_true, if_false, hold_app, tS_nil, w_region, mk_clean, tS_cons, g_none, o_bin, nil_int, Nat.reduceLT, rho_tmp, look_miss, look_hit, rho_const, constDV, b_add, wi, o_move, move_tmp, movK, vroA_int, mk_forget, List.map_cons, List.map_nil]
              refine ⟨_, ?_, i + 1, H3, S3, _, by omega, rfl, hF2.trans hF3, hSt3, ?_, ?_, ?_, rfl⟩
              · omega
              · rw [hseen]; funext l; exact hS3 l
              · rw [hexs, hall]; rfl
              · rcases hT2 with rfl | ⟨g3, c3, rfl⟩
                · exact .inr (.inl ⟨_, _, rfl⟩)
                · exact .inr (.inr ⟨_, _, _, _, rfl⟩)
        · simp only [w_seq, w_region, mk_clean, tS_cons, g_none, hold_app, o_bin, nil_tmp, Bool.false_eq_true, Nat.reduceLT, rho_tmp, Nat.reduceBEq, look_miss, look_hit, b_lss, e1, decide_true, mk_put?_some, dropLk, tS_nil, hold_app2, w_cond, cd_t, w_skip, w_block, o_indexAddr, ix24, e2, List.length_map, Int.toNat_natCast, hx, vcl_agg, o_load, ld_vptr, la30, List.length_cons, List.length_nil, Nat.zero_add, Nat.reduceAdd, Nat.reduceLeDiff, List.take_succ_cons, List.take_zero, List.map_cons, vro1_int, vro1_hsl, vro1_sl, List.map_nil, lo_agg, al30, nv_if, isO_eq, Bool.or_self, hb1, hb2, if_false, o_store, take_tmp, takK, st_b, bget_cons, if_true, stb_some, Proofs.Try.underlying30, Option.isSome_some, cn30, List.all_cons, vsca_int, vsca_hsl, vsca_sl, List.all_nil, Bool.and_self, putAt_eq, List.nil_append, List.drop_succ_cons, List.drop_nil, List.append_nil, mk_setB, bset_cons, Pos.inBox, List.filter_nil, o_fieldAddr, fl30_3, ld_b, dlb_some, List.drop_zero, la28, vro_hsl, lo_hsl, o_len, dlh28, o_move, move_const, constDV, vroA_int, true_and]
          refine w_loop [3, 5, 9, 10, 11, 16, 17, 18] (MEx2 H (.sl false 5 ((ds.map fun x => x.1.cells).map .agg)) (.hsl id2 5 off2 rs.length) ds.length i S g [.int .i64 lv, .int .i64 n, .int .i64 tn, (.hsl id2 5 off2 rs.length), .sl false 3 (ws.map wrD)] rs) rs.length ?_ ?_
          · refine ⟨0, H', T, by omega, by omega, hF, hSt, rfl, hT, ?_⟩
            simp only [mk_forget, List.map_cons, Nat.reduceBEq, look_miss, look_hit, List.map_nil, nc0]; try rfl
          · rintro m st ⟨k, H2, T2, hk, rfl, hF2, hSt2, hall, hT2, rfl⟩
            obtain ⟨g2, hb3, hb4⟩ := box7 (s := 5) (g := g) (cs := [.int .i64 lv, .int .i64 n, .int .i64 tn, (.hsl id2 5 off2 rs.length), .sl false 3 (ws.map wrD)]) (by decide) hT2
            have hrl := hdw.rl
            by_cases f : k < rs.length
            · have f1 : (k : Int) < rs.length := by omega
              have f2 : (0 : Int) ≤ k := by omega
              have wk : IntKind.i64.wrap ((k : Int) + 1) = ((k + 1 : Nat) : Int) := by rw [wrap_i64 (by omega) (by omega)]; omega
              have hpl := hdw.pl _ (List.getElem_mem f)
              have hstep : (rs.take (k + 1)).all (fun x => decide (readF (filesS S) x = x.pairs)) = decide (readF (filesS S) rs[k] = rs[k].pairs) := by
                rw [List.take_succ_eq_append_getElem f, List.all_append, hall]; simp
              have hfail : decide (readF (filesS S) rs[k] = rs[k].pairs) = false → rs.all (fun x => decide (readF (filesS S) x = x.pairs)) = false := fun hc => by
                rw [List.all_eq_false]; exact ⟨_, List.getElem_mem f, by simpa using hc⟩
              obtain ⟨R, hR⟩ : ∃ x, rs[k] = x := ⟨_, rfl⟩
              have hR1 : (rs.map RD.cells)[k]? = some R.cells := by simp [f, hR]
              rw [hR] at hpl hstep hfail
              have hid3 : H2[id2]? = some (.cells cs2) := hF2.fr.get hid2 (by simp)
              obtain ⟨r2, rest2, hz, hro2⟩ := hat2 k _ hR1
              obtain ⟨o2, rfl⟩ := rd_ro hro2
              have hz : cs2.drop (off2 + k * 5) = .int .i64 R.lv :: .bool R.scan :: .str R.fr :: .str R.to :: .sl o2 2 (R.pairs.map prD) :: rest2 := hz
              simp only [w_seq, w_region, mk_clean, tS_cons, g_none, hold_app, o_bin, nil_tmp, Bool.false_eq_true, Nat.reduceLT, rho_tmp, Nat.reduceBEq, look_miss, look_hit, b_lss, f1, decide_true, mk_put?_some, dropLk, tS_nil, hold_app2, w_cond, cd_t, w_skip, w_block, o_indexAddr, ixh28, f2, Int.toNat_natCast, o_load, ld_h, hid3, dlh_some, hz, la33, List.length_cons, Nat.reduceLeDiff, List.take_succ_cons, List.take_zero, List.map_cons, vro1_int, vro1_bool, vro1_str, vro1_sl, List.map_nil, lo_agg, al33, nv_if, isO_eq, Bool.or_self, vcl_agg, hb3, hb4, if_false, o_store, take_tmp, takK, st_b, bget_cons, Nat.reduceEqDiff, bget_nil, if_true, stb_some, Proofs.Try.underlying33, Option.isSome_some, List.length_nil, Nat.zero_add, Nat.reduceAdd, cn33, List.all_cons, vsca_int, vsca_bool, vsca_str, vsca_sl, List.all_nil, Bool.and_self, putAt_eq, List.nil_append, List.drop_succ_cons, List.drop_nil, List.append_nil, mk_setB, bset_cons, bset_nil, Pos.inBox, List.filter_nil, true_and]
              refine w_draw [2, 5] (.quiet 0 (.quiet 1 (.quiet 3 (.quiet 4 (.acts [(2, [4, 3], .acts [(5, [], .quiet 6 (.done))])]))))) (by decide) (by kernel_rfl) ?_
              simp only [mk_clean, rp_quiet, rpQ_zero, g_none, hold_app, q_move, Nat.reduceLT, rho_tmp, Nat.reduceBEq, look_miss, look_hit, vroA_map, ex_eq, mk_put, dropLk, rpQ_succ, q_load, ld_b, bget_cons, Nat.reduceEqDiff, bget_nil, if_true, if_false, dlb_some, List.drop_zero, la33, List.length_cons, List.length_nil, Nat.zero_add, Nat.reduceAdd, Nat.reduceLeDiff, List.take_succ_cons, List.take_zero, List.map_cons, vro1_int, vro1_bool, vro1_str, vro1_sl, List.map_nil, true_and, q_fieldAddr, fl33_4, List.drop_succ_cons, la31, vro_sl, rp_acts, ra_cons, rpA_succ, rpA_zero, o_fn, args_cons, args_nil, mk_H, env_cons, dcl_some, List.all_cons, vfla_map, vfla_agg, List.all_nil, Bool.and_self, vro_map, vro_agg, ra_nil, and_true]
              refine ⟨_, _, R, S, rfl, hSt2, fun fs h => hgok R.lv fs h, fun H3 own hF3 => ?_⟩
              simp only [hold_app2, mk_called, Pos.isHp, List.filter_nil, mk_put?_some, dropLk, hold_app, rcA_cons, rcW_succ, rcW_zero, g_none, Nat.reduceLT, mk_t, Nat.reduceBEq, look_miss, look_hit, q_load, rho_tmp, ld_b, bget_cons, Nat.reduceEqDiff, bget_nil, if_true, if_false, dlb_some, List.drop_succ_cons, List.drop_zero, la31, vro_sl, and_true, q_fieldAddr, fl33_4, Nat.zero_add, rcA_nil, slL_cons, slW_succ, slW_zero, slL_nil, mk_unlink, dropLks, rp_acts, ra_cons, rpA_succ, rpA_zero, o_fn, args_cons, args_nil, mk_H, env_cons, dcl_some, List.all_cons, vfla_sl, List.all_nil, Bool.and_self, List.map_cons, List.map_nil, true_and, ra_nil]
              refine appSame (readF_len _ _) hpl ?_
              have hF23 := hF2.trans (Fr.frB hF3 hF2.1)
              by_cases hq : readF (filesS S) R = R.pairs
              · simp only [hq, decide_true, hold_app2, mk_called, Pos.isHp, List.filter_nil, mk_put?_some, dropLk, hold_app, rcA_nil, slL_nil, mk_unlink, dropLks, rp_quiet, rpQ_succ, rpQ_zero, g_none, q_un, Nat.reduceLT, rho_tmp, look_hit, u_not, Bool.not_true, ex_eq, mk_put, rp_done, w_cond, cd_f, w_skip, w_region, mk_clean, tS_cons, o_bin, nil_int, Bool.false_eq_true, Nat.reduceBEq, look_miss, rho_const, constDV, b_add, wk, o_move, move_tmp, movK, vroA_int, tS_nil, mk_forget, List.map_cons, List.map_nil, if_false, true_and]
                refine ⟨_, ?_, k + 1, H3, _, by omega, rfl, hF23, hSt2.fr hF3, ?_, .inr ⟨_, _, rfl⟩, rfl⟩
                · omega
                · rw [hstep]; simpa using hq
              · simp only [hq, decide_false, hold_app2, mk_called, Pos.isHp, List.filter_nil, mk_put?_some, dropLk, hold_app, rcA_nil, slL_nil, mk_unlink, dropLks, rp_quiet, rpQ_succ, rpQ_zero, g_none, q_un, Nat.reduceLT, rho_tmp, look_hit, u_not, Bool.not_false, ex_eq, mk_put, rp_done, w_cond, cd_t, w_seq, w_region, mk_clean, tS_cons, o_assign, take_const, constDV, tS_nil, w_ret, ret_one, vfla_bool, true_and]
                have := hK H3 hF23.fr
                rw [hexs, hfail (by simpa using hq)] at this
                exact this
            · have e0 : k = rs.length := by omega
              subst e0
              rw [List.take_length] at hall
              simp only [w_seq, w_region, mk_clean, tS_cons, g_none, hold_app, o_bin, nil_tmp, Bool.false_eq_true, Nat.reduceLT, rho_tmp, Nat.reduceBEq, look_miss, look_hit, b_lss, Int.lt_irrefl, decide_false, mk_put?_some, dropLk, tS_nil, hold_app2, w_cond, cd_f, w_exit, o_move, move_tmp, movK, vroA_map, o_fieldAddr, fl30_0, Nat.add_zero, o_load, ld_b, bget_cons, if_true, dlb_some, List.drop_zero, la3, vro_int, lo_int, fl30_4, Nat.zero_add, List.drop_succ_cons, la27, vro_sl, lo_sl, addrPos, ia27, if_false, o_fn, args_cons, args_nil, mk_H, env_cons, Nat.reduceEqDiff, dcl_some, List.all_cons, vfla_map, vfla_int, vfla_sl, List.all_nil, Bool.and_self, List.map_cons, vro_map, List.map_nil, true_and, nil_int, rho_const, constDV, b_add, vroA_int, mk_forget, reduceCtorEq, o_assign, take_const, mk_put, w_ret, ret_one, vfla_bool]
              refine ⟨H.length, _, lv, _, ws, S, rfl, hSt2, hF2.1, hdw.wl, fun H3 S3 hF3 hSt3 hS3 => ?_⟩
              simp only [hold_app2, mk_called, Pos.isHp, List.filter_cons, Bool.not_false, List.filter_nil, if_true, mk_put?_some, dropLk, Nat.reduceBEq, Pos.atSlot, Bool.or_self, Bool.false_eq_true, if_false, hold_app, tS_nil, w_region, mk_clean, tS_cons, g_none, o_bin, nil_int, Nat.reduceLT, rho_tmp, look_miss, look_hit, rho_const, constDV, b_add, wi, o_move, move_tmp, movK, vroA_int, mk_forget, List.map_cons, List.map_nil]
              refine ⟨_, ?_, i + 1, H3, S3, _, by omega, rfl, hF2.trans hF3, hSt3, ?_, ?_, ?_, rfl⟩
              · omega
              · rw [hseen]; funext l; exact hS3 l
              · rw [hexs, hall]; rfl
              · rcases hT2 with rfl | ⟨g3, c3, rfl⟩
                · exact .inr (.inl ⟨_, _, rfl⟩)
                · exact .inr (.inr ⟨_, _, _, _, rfl⟩)
      · have e0 : i = ds.length := by omega
        subst e0
        simp only [w_seq, w_region, mk_clean, tS_cons, g_none, hold_app, o_bin, nil_tmp, Bool.false_eq_true, Nat.reduceLT, rho_tmp, Nat.reduceBEq, look_miss, look_hit, b_lss, Int.lt_irrefl, decide_false, mk_put?_some, dropLk, tS_nil, hold_app2, w_cond, cd_f, w_exit, o_assign, take_const, constDV, mk_put, w_ret, ret_one, vfla_bool, true_and, if_true, if_false]
        rw [List.drop_length] at hex
        rw [hex] at hK
        exact hK _ hF.fr
  ·
    refine ⟨by simp, rfl, ?_⟩
    unfold b7 Go.Proofs.Try.f7
    simp only [Option.getD_some, argSlots, List.length_map, vro_hsl, w_seq, w_region, mk_clean, tS_cons, g_none, hold_app, o_assign, take_const, constDV, mk_put, dropLk, tS_nil, hold_app2, o_makeMap, mk_newMap, Nat.reduceLT, take_tmp, takK, look_hit, vroA_map, o_move, move_tmp, movK, Nat.reduceBEq, look_miss, vroA_hsl, o_len, rho_tmp, dlh24, mk_put?_some, move_const, vroA_int, w_block]
    refine w_loop [3, 9, 10, 11] (MExp H (.hsl id 5 off ds.length) ds) ds.length ?_ ?_
    · refine ⟨0, H ++ [HObj.map []], [], [], by omega, by omega, FrB.app _ (Nat.le_refl _), ⟨ap_get0, fun x hx => by simp at hx, by simp, by simp, Nat.le_refl _, fun x hx => by simp at hx⟩, rfl, rfl, .inl rfl, ?_⟩
      simp only [mk_forget, List.map_cons, Nat.reduceBEq, look_miss, look_hit, List.map_nil, nc0]; try rfl
    · rintro m st ⟨i, H', S, B, hi, rfl, hF, hSt, hfs, hex, hB, rfl⟩
      obtain ⟨g, T, hb1, hb2, hT⟩ := box57 hB
      by_cases e : i < ds.length
      · have e1 : (i : Int) < ds.length := by omega
        have e2 : (0 : Int) ≤ i := by omega
        have wi : IntKind.i64.wrap ((i : Int) + 1) = ((i + 1 : Nat) : Int) := by rw [wrap_i64 (by omega) (by omega)]; omega
        have hfr := hF.fr
        have hdw := hv.dw _ (List.getElem_mem e)
        have hkw := hv.keys _ (List.getElem_mem e)
        have hexs := expl_step e hex
        have hseen := fold_step (F := noF) e
        have hgood := good_take hv.keys i GoodF.no
        have hws := wsum_take ds i
        have hsum := hv.sum
        have hgok := hgood.ok (n := 0 + wsum (ds.take i)) (by omega)
        rw [← hfs] at hexs hseen hgok
        obtain ⟨⟨D, rs, ws⟩, hD⟩ : ∃ x, ds[i] = x := ⟨_, rfl⟩
        have hD1 : (ds.map fun x => x.1.cells)[i]? = some D.cells := by simp [e, hD]
        rw [hD] at hdw hkw hexs hseen
        dsimp only at hdw hkw hexs hseen
        obtain ⟨a1, a2, a3, a4⟩ := hdw.ok
        have hrr := hdw.r
        have hww := hdw.w
        rcases D with ⟨lv, n, tn, r, w⟩
        dsimp only at hrr hww hexs hseen a1 a2 a3 a4
        subst hww
        obtain ⟨r', rest, hy, hro⟩ := hat i _ hD1
        obtain ⟨r1, w1, rfl, hr1, hw1⟩ := dc_ro hro
        dsimp only at hr1 hw1
        have hy : cs.drop (off + i * 5) = .int .i64 lv :: .int .i64 n :: .int .i64 tn :: r1 :: w1 :: rest := hy
        have hid' : H'[id]? = some (.cells cs) := hfr.get hid (by simp)
        rcases hrr with rfl | ⟨id2, off2, cs2, rfl, hid2, hat2⟩
        · simp only [w_seq, w_region, mk_clean, tS_cons, g_none, hold_app, o_bin, nil_tmp, Bool.false_eq_true, Nat.reduceLT, rho_tmp, Nat.reduceBEq, look_miss, look_hit, b_lss, e1, decide_true, mk_put?_some, dropLk, tS_nil, hold_app2, w_cond, cd_t, w_skip, w_block, o_indexAddr, ixh24, e2, Int.toNat_natCast, o_load, ld_h, hid', dlh_some, hy, List.cons_append, List.nil_append, la30, List.length_cons, Nat.reduceLeDiff, List.take_succ_cons, List.take_zero, List.map_cons, vro1_int, hr1, hw1, List.map_nil, lo_agg, al30, nv_if, isO_eq, Bool.or_self, vcl_agg, hb1, hb2, if_false, o_store, take_tmp, takK, vro1_sl, st_b, bget_cons, if_true, stb_some, Proofs.Try.underlying30, Option.isSome_some, List.length_nil, Nat.zero_add, Nat.reduceAdd, cn30, List.all_cons, vsca_int, vsca_sl, List.all_nil, Bool.and_self, putAt_eq, List.drop_succ_cons, List.drop_nil, List.append_nil, mk_setB, bset_cons, Pos.inBox, List.filter_nil, o_fieldAddr, fl30_3, ld_b, dlb_some, List.drop_zero, la28, vro_sl, lo_sl, addrPos, ia28, o_len, dl28, List.length_map, Pos.atSlot, o_move, move_const, constDV, vroA_int, true_and]
          refine w_loop [3, 5, 9, 10, 11, 16, 17, 18] (MEx2 H (.hsl id 5 off ds.length) (.sl false 5 ((rs.map RD.cells).map .agg)) ds.length i S g [.int .i64 lv, .int .i64 n, .int .i64 tn, (.sl false 5 ((rs.map RD.cells).map .agg)), .sl false 3 (ws.map wrD)] rs) rs.length ?_ ?_
          · refine ⟨0, H', T, by omega, by omega, hF, hSt, rfl, hT, ?_⟩
            simp only [mk_forget, List.map_cons, Nat.reduceBEq, look_miss, look_hit, List.map_nil, nc0]; try rfl
          · rintro m st ⟨k, H2, T2, hk, rfl, hF2, hSt2, hall, hT2, rfl⟩
            obtain ⟨g2, hb3, hb4⟩ := box7 (s := 5) (g := g) (cs := [.int .i64 lv, .int .i64 n, .int .i64 tn, (.sl false 5 ((rs.map RD.cells).map .agg)), .sl false 3 (ws.map wrD)]) (by decide) hT2
            have hrl := hdw.rl
            by_cases f : k < rs.length
            · have f1 : (k : Int) < rs.length := by omega
              have f2 : (0 : Int) ≤ k := by omega
              have wk : IntKind.i64.wrap ((k : Int) + 1) = ((k + 1 : Nat) : Int) := by rw [wrap_i64 (by omega) (by omega)]; omega
              have hpl := hdw.pl _ (List.getElem_mem f)
              have hstep : (rs.take (k + 1)).all (fun x => decide (readF (filesS S) x = x.pairs)) = decide (readF (filesS S) rs[k] = rs[k].pairs) := by
                rw [List.take_succ_eq_append_getElem f, List.all_append, hall]; simp
              have hfail : decide (readF (filesS S) rs[k] = rs[k].pairs) = false → rs.all (fun x => decide (readF (filesS S) x = x.pairs)) = false := fun hc => by
                rw [List.all_eq_false]; exact ⟨_, List.getElem_mem f, by simpa using hc⟩
              obtain ⟨R, hR⟩ : ∃ x, rs[k] = x := ⟨_, rfl⟩
              have hR1 : (rs.map RD.cells)[k]? = some R.cells := by simp [f, hR]
              rw [hR] at hpl hstep hfail
              have hz : ((rs.map RD.cells).map DV.agg).getD k .undef = .agg [.int .i64 R.lv, .bool R.scan, .str R.fr, .str R.to, .sl false 2 (R.pairs.map prD)] := by
                simp only [List.getD, List.getElem?_map, hR1]; rfl
              simp only [w_seq, w_region, mk_clean, tS_cons, g_none, hold_app, o_bin, nil_tmp, Bool.false_eq_true, Nat.reduceLT, rho_tmp, Nat.reduceBEq, look_miss, look_hit, b_lss, f1, decide_true, mk_put?_some, dropLk, tS_nil, hold_app2, w_cond, cd_t, w_skip, w_block, o_indexAddr, ix28, f2, List.length_map, Int.toNat_natCast, hz, vcl_agg, o_load, ld_vptr, la33, List.length_cons, List.length_nil, Nat.zero_add, Nat.reduceAdd, Nat.reduceLeDiff, List.take_succ_cons, List.take_zero, List.map_cons, vro1_int, vro1_bool, vro1_str, vro1_sl, List.map_nil, lo_agg, al33, nv_if, isO_eq, Bool.or_self, hb3, hb4, if_false, o_store, take_tmp, takK, st_b, bget_cons, Nat.reduceEqDiff, bget_nil, if_true, stb_some, Proofs.Try.underlying33, Option.isSome_some, cn33, List.all_cons, vsca_int, vsca_bool, vsca_str, vsca_sl, List.all_nil, Bool.and_self, putAt_eq, List.nil_append, List.drop_succ_cons, List.drop_nil, List.append_nil, mk_setB, bset_cons, bset_nil, Pos.inBox, List.filter_nil, true_and]
              refine w_draw [2, 5] (.quiet 0 (.quiet 1 (.quiet 3 (.quiet 4 (.acts [(2, [4, 3], .acts [(5, [], .quiet 6 (.done))])]))))) (by decide) (by kernel_rfl) ?_
              simp only [mk_clean, rp_quiet, rpQ_zero, g_none, hold_app, q_move, Nat.reduceLT, rho_tmp, Nat.reduceBEq, look_miss, look_hit, vroA_map, ex_eq, mk_put, dropLk, rpQ_succ, q_load, ld_b, bget_cons, Nat.reduceEqDiff, bget_nil, if_true, if_false, dlb_some, List.drop_zero, la33, List.length_cons, List.length_nil, Nat.zero_add, Nat.reduceAdd, Nat.reduceLeDiff, List.take_succ_cons, List.take_zero, List.map_cons, vro1_int, vro1_bool, vro1_str, vro1_sl, List.map_nil, true_and, q_fieldAddr, fl33_4, List.drop_succ_cons, la31, vro_sl, rp_acts, ra_cons, rpA_succ, rpA_zero, o_fn, args_cons, args_nil, mk_H, env_cons, dcl_some, List.all_cons, vfla_map, vfla_agg, List.all_nil, Bool.and_self, vro_map, vro_agg, ra_nil, and_true]
              refine ⟨_, _, R, S, rfl, hSt2, fun fs h => hgok R.lv fs h, fun H3 own hF3 => ?_⟩
              simp only [hold_app2, mk_called, Pos.isHp, List.filter_nil, mk_put?_some, dropLk, hold_app, rcA_cons, rcW_succ, rcW_zero, g_none, Nat.reduceLT, mk_t, Nat.reduceBEq, look_miss, look_hit, q_load, rho_tmp, ld_b, bget_cons, Nat.reduceEqDiff, bget_nil, if_true, if_false, dlb_some, List.drop_succ_cons, List.drop_zero, la31, vro_sl, and_true, q_fieldAddr, fl33_4, Nat.zero_add, rcA_nil, slL_cons, slW_succ, slW_zero, slL_nil, mk_unlink, dropLks, rp_acts, ra_cons, rpA_succ, rpA_zero, o_fn, args_cons, args_nil, mk_H, env_cons, dcl_some, List.all_cons, vfla_sl, List.all_nil, Bool.and_self, List.map_cons, List.map_nil, true_and, ra_nil]
              refine appSame (readF_len _ _) hpl ?_
              have hF23 := hF2.trans (Fr.frB hF3 hF2.1)
              by_cases hq : readF (filesS S) R = R.pairs
              · simp only [hq, decide_true, hold_app2, mk_called, Pos.isHp, List.filter_nil, mk_put?_some, dropLk, hold_app, rcA_nil, slL_nil, mk_unlink, dropLks, rp_quiet, rpQ_succ, rpQ_zero, g_none, q_un, Nat.reduceLT, rho_tmp, look_hit, u_not, Bool.not_true, ex_eq, mk_put, rp_done, w_cond, cd_f, w_skip, w_region, mk_clean, tS_cons, o_bin, nil_int, Bool.false_eq_true, Nat.reduceBEq, look_miss, rho_const, constDV, b_add, wk, o_move, move_tmp, movK, vroA_int, tS_nil, mk_forget, List.map_cons, List.map_nil, if_false, true_and]
                refine ⟨_, ?_, k + 1, H3, _, by omega, rfl, hF23, hSt2.fr hF3, ?_, .inr ⟨_, _, rfl⟩, rfl⟩
                · omega
                · rw [hstep]; simpa using hq
              · simp only [hq, decide_false, hold_app2, mk_called, Pos.isHp, List.filter_nil, mk_put?_some, dropLk, hold_app, rcA_nil, slL_nil, mk_unlink, dropLks, rp_quiet, rpQ_succ, rpQ_zero, g_none, q_un, Nat.reduceLT, rho_tmp, look_hit, u_not, Bool.not_false, ex_eq, mk_put, rp_done, w_cond, cd_t, w_seq, w_region, mk_clean, tS_cons, o_assign, take_const, constDV, tS_nil, w_ret, ret_one, vfla_bool, true_and]
                have := hK H3 hF23.fr
                rw [hexs, hfail (by simpa using hq)] at this
                exact this
            · have e0 : k = rs.length := by omega
              subst e0
              rw [List.take_length] at hall
              simp only [w_seq, w_region, mk_clean, tS_cons, g_none, hold_app, o_bin, nil_tmp, Bool.false_eq_true, Nat.reduceLT, rho_tmp, Nat.reduceBEq, look_miss, look_hit, b_lss, Int.lt_irrefl, decide_false, mk_put?_some, dropLk, tS_nil, hold_app2, w_cond, cd_f, w_exit, o_move, move_tmp, movK, vroA_map, o_fieldAddr, fl30_0, Nat.add_zero, o_load, ld_b, bget_cons, if_true, dlb_some, List.drop_zero, la3, vro_int, lo_int, fl30_4, Nat.zero_add, List.drop_succ_cons, la27, vro_sl, lo_sl, addrPos, ia27, if_false, o_fn, args_cons, args_nil, mk_H, env_cons, Nat.reduceEqDiff, dcl_some, List.all_cons, vfla_map, vfla_int, vfla_sl, List.all_nil, Bool.and_self, List.map_cons, vro_map, List.map_nil, true_and, nil_int, rho_const, constDV, b_add, vroA_int, mk_forget, reduceCtorEq, o_assign, take_const, mk_put, w_ret, ret_one, vfla_bool]
              refine ⟨H.length, _, lv, _, ws, S, rfl, hSt2, hF2.1, hdw.wl, fun H3 S3 hF3 hSt3 hS3 => ?_⟩
              simp only [hold_app2, mk_called, Pos.isHp, List.filter_cons, Bool.not_false, List.filter_nil, if_true, mk_put?_some, dropLk, Nat.reduceBEq, Pos.atSlot, Bool.or_self, Bool.false_eq_true, if_false, hold_app, tS_nil, w_region, mk_clean, tS_cons, g_none, o_bin, nil_int, Nat.reduceLT, rho_tmp, look_miss, look_hit, rho_const, constDV, b_add, wi, o_move, move_tmp, movK, vroA_int, mk_forget, List.map_cons, List.map_nil]
              refine ⟨_, ?_, i + 1, H3, S3, _, by omega, rfl, hF2.trans hF3, hSt3, ?_, ?_, ?_, rfl⟩
              · omega
              · rw [hseen]; funext l; exact hS3 l
              · rw [hexs, hall]; rfl
              · rcases hT2 with rfl | ⟨g3, c3, rfl⟩
                · exact .inr (.inl ⟨_, _, rfl⟩)
                · exact .inr (.inr ⟨_, _, _, _, rfl⟩)
        · simp only [w_seq, w_region, mk_clean, tS_cons, g_none, hold_app, o_bin, nil_tmp, Bool.false_eq_true, Nat.reduceLT, rho_tmp, Nat.reduceBEq, look_miss, look_hit, b_lss, e1, decide_true, mk_put?_some, dropLk, tS_nil, hold_app2, w_cond, cd_t, w_skip, w_block, o_indexAddr, ixh24, e2, Int.toNat_natCast, o_load, ld_h, hid', dlh_some, hy, List.cons_append, List.nil_append, la30, List.length_cons, Nat.reduceLeDiff, List.take_succ_cons, List.take_zero, List.map_cons, vro1_int, hr1, List.length_map, hw1, List.map_nil, lo_agg, al30, nv_if, isO_eq, Bool.or_self, vcl_agg, hb1, hb2, if_false, o_store, take_tmp, takK, vro1_hsl, vro1_sl, st_b, bget_cons, if_true, stb_some, Proofs.Try.underlying30, Option.isSome_some, List.length_nil, Nat.zero_add, Nat.reduceAdd, cn30, List.all_cons, vsca_int, vsca_hsl, vsca_sl, List.all_nil, Bool.and_self, putAt_eq, List.drop_succ_cons, List.drop_nil, List.append_nil, mk_setB, bset_cons, Pos.inBox, List.filter_nil, o_fieldAddr, fl30_3, ld_b, dlb_some, List.drop_zero, la28, vro_hsl, lo_hsl, o_len, dlh28, o_move, move_const, constDV, vroA_int, true_and]
          refine w_loop [3, 5, 9, 10, 11, 16, 17, 18] (MEx2 H (.hsl id 5 off ds.length) (.hsl id2 5 off2 rs.length) ds.length i S g [.int .i64 lv, .int .i64 n, .int .i64 tn, (.hsl id2 5 off2 rs.length), .sl false 3 (ws.map wrD)] rs) rs.length ?_ ?_
          · refine ⟨0, H', T, by omega, by omega, hF, hSt, rfl, hT, ?_⟩
            simp only [mk_forget, List.map_cons, Nat.reduceBEq, look_miss, look_hit, List.map_nil, nc0]; try rfl
          · rintro m st ⟨k, H2, T2, hk, rfl, hF2, hSt2, hall, hT2, rfl⟩
            obtain ⟨g2, hb3, hb4⟩ := box7 (s := 5) (g := g) (cs := [.int .i64 lv, .int .i64 n, .int .i64 tn, (.hsl id2 5 off2 rs.length), .sl false 3 (ws.map wrD)]) (by decide) hT2
            have hrl := hdw.rl
            by_cases f : k < rs.length
            · have f1 : (k : Int) < rs.length := by omega
              have f2 : (0 : Int) ≤ k := by omega
              have wk : IntKind.i64.wrap ((k : Int) + 1) = ((k + 1 : Nat) : Int) := by rw [wrap_i64 (by omega) (by omega)]; omega
              have hpl := hdw.pl _ (List.getElem_mem f)
              have hstep : (rs.take (k + 1)).all (fun x => decide (readF (filesS S) x = x.pairs)) = decide (readF (filesS S) rs[k] = rs[k].pairs) := by
                rw [List.take_succ_eq_append_getElem f, List.all_append, hall]; simp
              have hfail : decide (readF (filesS S) rs[k] = rs[k].pairs) = false → rs.all (fun x => decide (readF (filesS S) x = x.pairs)) = false := fun hc => by
                rw [List.all_eq_false]; exact ⟨_, List.getElem_mem f, by simpa using hc⟩
              obtain ⟨R, hR⟩ : ∃ x, rs[k] = x := ⟨_, rfl⟩
              have hR1 : (rs.map RD.cells)[k]? = some R.cells := by simp [f, hR]
              rw [hR] at hpl hstep hfail
              have hid3 : H2[id2]? = some (.cells cs2) := hF2.fr.get hid2 (by simp)
              obtain ⟨r2, rest2, hz, hro2⟩ := hat2 k _ hR1
              obtain ⟨o2, rfl⟩ := rd_ro hro2
              have hz : cs2.drop (off2 + k * 5) = .int .i64 R.lv :: .bool R.scan :: .str R.fr :: .str R.to :: .sl o2 2 (R.pairs.map prD) :: rest2 := hz
              simp only [w_seq, w_region, mk_clean, tS_cons, g_none, hold_app, o_bin, nil_tmp, Bool.false_eq_true, Nat.reduceLT, rho_tmp, Nat.reduceBEq, look_miss, look_hit, b_lss, f1, decide_true, mk_put?_some, dropLk, tS_nil, hold_app2, w_cond, cd_t, w_skip, w_block, o_indexAddr, ixh28, f2, Int.toNat_natCast, o_load, ld_h, hid3, dlh_some, hz, la33, List.length_cons, Nat.reduceLeDiff, List.take_succ_cons, List.take_zero, List.map_cons, vro1_int, vro1_bool, vro1_str, vro1_sl, List.map_nil, lo_agg, al33, nv_if, isO_eq, Bool.or_self, vcl_agg, hb3, hb4, if_false, o_store, take_tmp, takK, st_b, bget_cons, Nat.reduceEqDiff, bget_nil, if_true, stb_some, Proofs.Try.underlying33, Option.isSome_some, List.length_nil, Nat.zero_add, Nat.reduceAdd, cn33, List.all_cons, vsca_int, vsca_bool, vsca_str, vsca_sl, List.all_nil, Bool.and_self, putAt_eq, List.nil_append, List.drop_succ_cons, List.drop_nil, List.append_nil, mk_setB, bset_cons, bset_nil, Pos.inBox, List.filter_nil, true_and]
              refine w_draw [2, 5] (.quiet 0 (.quiet 1 (.quiet 3 (.quiet 4 (.acts [(2, [4, 3], .acts [(5, [], .quiet 6 (.done))])]))))) (by decide) (by kernel_rfl) ?_
              simp only [mk_clean, rp_quiet, rpQ_zero, g_none, hold_app, q_move, Nat.reduceLT, rho_tmp, Nat.reduceBEq, look_miss, look_hit, vroA_map, ex_eq, mk_put, dropLk, rpQ_succ, q_load, ld_b, bget_cons, Nat.reduceEqDiff, bget_nil, if_true, if_false, dlb_some, List.drop_zero, la33, List.length_cons, List.length_nil, Nat.zero_add, Nat.reduceAdd, Nat.reduceLeDiff, List.take_succ_cons, List.take_zero, List.map_cons, vro1_int, vro1_bool, vro1_str, vro1_sl, List.map_nil, true_and, q_fieldAddr, fl33_4, List.drop_succ_cons, la31, vro_sl, rp_acts, ra_cons, rpA_succ, rpA_zero, o_fn, args_cons, args_nil, mk_H, env_cons, dcl_some, List.all_cons, vfla_map, vfla_agg, List.all_nil, Bool.and_self, vro_map, vro_agg, ra_nil, and_true]
              refine ⟨_, _, R, S, rfl, hSt2, fun fs h => hgok R.lv fs h, fun H3 own hF3 => ?_⟩
              simp only [hold_app2, mk_called, Pos.isHp, List.filter_nil, mk_put?_some, dropLk, hold_app, rcA_cons, rcW_succ, rcW_zero, g_none, Nat.reduceLT, mk_t, Nat.reduceBEq, look_miss, look_hit, q_load, rho_tmp, ld_b, bget_cons, Nat.reduceEqDiff, bget_nil, if_true, if_false, dlb_some, List.drop_succ_cons, List.drop_zero, la31, vro_sl, and_true, q_fieldAddr, fl33_4, Nat.zero_add, rcA_nil, slL_cons, slW_succ, slW_zero, slL_nil, mk_unlink, dropLks, rp_acts, ra_cons, rpA_succ, rpA_zero, o_fn, args_cons, args_nil, mk_H, env_cons, dcl_some, List.all_cons, vfla_sl, List.all_nil, Bool.and_self, List.map_cons, List.map_nil, true_and, ra_nil]
              refine appSame (readF_len _ _) hpl ?_
              have hF23 := hF2.trans (Fr.frB hF3 hF2.1)
              by_cases hq : readF (filesS S) R = R.pairs
              · simp only [hq, decide_true, hold_app2, mk_called, Pos.isHp, List.filter_nil, mk_put?_some, dropLk, hold_app, rcA_nil, slL_nil, mk_unlink, dropLks, rp_quiet, rpQ_succ, rpQ_zero, g_none, q_un, Nat.reduceLT, rho_tmp, look_hit, u_not, Bool.not_true, ex_eq, mk_put, rp_done, w_cond, cd_f, w_skip, w_region, mk_clean, tS_cons, o_bin, nil_int, Bool.false_eq_true, Nat.reduceBEq, look_miss, rho_const, constDV, b_add, wk, o_move, move_tmp, movK, vroA_int, tS_nil, mk_forget, List.map_cons, List.map_nil, if_false, true_and]
                refine ⟨_, ?_, k + 1, H3, _, by omega, rfl, hF23, hSt2.fr hF3, ?_, .inr ⟨_, _, rfl⟩, rfl⟩
                · omega
                · rw [hstep]; simpa using hq
              · simp only [hq, decide_false, hold_app2, mk_called, Pos.isHp, List.filter_nil, mk_put?_some, dropLk, hold_app, rcA_nil, slL_nil, mk_unlink, dropLks, rp_quiet, rpQ_succ, rpQ_zero, g_none, q_un, Nat.reduceLT, rho_tmp, look_hit, u_not, Bool.not_false, ex_eq, mk_put, rp_done, w_cond, cd_t, w_seq, w_region, mk_clean, tS_cons, o_assign, take_const, constDV, tS_nil, w_ret, ret_one, vfla_bool, true_and]
                have := hK H3 hF23.fr
                rw [hexs, hfail (by simpa using hq)] at this
                exact this
            · have e0 : k = rs.length := by omega
              subst e0
              rw [List.take_length] at hall
              simp only [w_seq, w_region, mk_clean, tS_cons, g_none, hold_app, o_bin, nil_tmp, Bool.false_eq_true, Nat.reduceLT, rho_tmp, Nat.reduceBEq, look_miss, look_hit, b_lss, Int.lt_irrefl, decide_false, mk_put?_some, dropLk, tS_nil, hold_app2, w_cond, cd_f, w_exit, o_move, move_tmp, movK, vroA_map, o_fieldAddr, fl30_0, Nat.add_zero, o_load, ld_b, bget_cons, if_true, dlb_some, List.drop_zero, la3, vro_int, lo_int, fl30_4, Nat.zero_add, List.drop_succ_cons, la27, vro_sl, lo_sl, addrPos, ia27, if_false, o_fn, args_cons, args_nil, mk_H, env_cons, Nat.reduceEqDiff, dcl_some, List.all_cons, vfla_map, vfla_int, vfla_sl, List.all_nil, Bool.and_self, List.map_cons, vro_map, List.map_nil, true_and, nil_int, rho_const, constDV, b_add, vroA_int, mk_forget, reduceCtorEq, o_assign, take_const, mk_put, w_ret, ret_one, vfla_bool]
              refine ⟨H.length, _, lv, _, ws, S, rfl, hSt2, hF2.1, hdw.wl, fun H3 S3 hF3 hSt3 hS3 => ?_⟩
              simp only [hold_app2, mk_called, Pos.isHp, List.filter_cons, Bool.not_false, List.filter_nil, if_true, mk_put?_some, dropLk, Nat.reduceBEq, Pos.atSlot, Bool.or_self, Bool.false_eq_true, if_false, hold_app, tS_nil, w_region, mk_clean, tS_cons, g_none, o_bin, nil_int, Nat.reduceLT, rho_tmp, look_miss, look_hit, rho_const, constDV, b_add, wi, o_move, move_tmp, movK, vroA_int, mk_forget, List.map_cons, List.map_nil]
              refine ⟨_, ?_, i + 1, H3, S3, _, by omega, rfl, hF2.trans hF3, hSt3, ?_, ?_, ?_, rfl⟩
              · omega
              · rw [hseen]; funext l; exact hS3 l
              · rw [hexs, hall]; rfl
              · rcases hT2 with rfl | ⟨g3, c3, rfl⟩
                · exact .inr (.inl ⟨_, _, rfl⟩)
                · exact .inr (.inr ⟨_, _, _, _, rfl⟩)
      · have e0 : i = ds.length := by omega
        subst e0
        simp only [w_seq, w_region, mk_clean, tS_cons, g_none, hold_app, o_bin, nil_tmp, Bool.false_eq_true, Nat.reduceLT, rho_tmp, Nat.reduceBEq, look_miss, look_hit, b_lss, Int.lt_irrefl, decide_false, mk_put?_some, dropLk, tS_nil, hold_app2, w_cond, cd_f, w_exit, o_assign, take_const, constDV, mk_put, w_ret, ret_one, vfla_bool, true_and, if_true, if_false]
        rw [List.drop_length] at hex
        rw [hex] at hK
        exact hK _ hF.fr
end Go.Ab.Or
