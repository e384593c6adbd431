/- A part of the proofs that a law function returns true at every input; it has no condition of its own. -/
import Derived.Test.YtefaplodmbdhlaaOrX
set_option linter.unusedSimpArgs false
set_option linter.unusedVariables false
/- OrY: OrderScans: the walk. -/
namespace Go.Ab.Or
open Go Go.Conc Go.RowKit Go.Ab
set_option maxRecDepth 10000
def MSc (H : List HObj) (ks : List Int) (fr to drop : Int) (wrong : Bool) (m : Nat) (st : St) : Prop := ∃ (i : Nat) (l : List (Int × WR)) (th : List Bool) (T : List (Nat × Nat × List DV)), i ≤ ks.length ∧ m = ks.length - i ∧ l.length = i ∧
  (∀ x ∈ l, x.2.key.length ≤ 1) ∧ There (f0 l) th ∧ (T = [] ∨ ∃ g c, T = [(16, g, c)]) ∧
  st = mk 145 [(0, .sl false 1 (ks.map (.int .u8))), (1, .int .u8 fr), (2, .int .u8 to), (3, .int .u8 drop), (4, .bool wrong), (11, .sl true 5 (l.map fun x => .agg (w1D x.1 x.2).cells)), (12, .lptr 12 0 0), (13, .int .i64 i)] ((12, 0, th.map .bool) :: T) H []
theorem db_none {n d : Nat} {K : Nat → Prop} : dbound n none d K = K d := _root_.id rfl
theorem db_some {n d : Nat} {k : IntKind} {i : Int} {K : Nat → Prop} : dbound n (some (.int k i)) d K = (0 ≤ i ∧ i ≤ n ∧ K i.toNat) := _root_.id rfl
theorem drop_bools {th : List Bool} {k : Nat} (h : k < th.length) : (th.map DV.bool).drop k = .bool (th.getD k false) :: (th.map DV.bool).drop (k + 1) := by
  rw [List.drop_eq_getElem_cons (by simpa using h)]
  simp [List.getD, h]
theorem nc10 : ((10 : Nat) : Int) = 10 := _root_.id rfl
def MS2 (H : List HObj) (drop : Int) (wrong : Bool) (rows : List DV) (th : List Bool) (lo hi : Nat) (T : List (Nat × Nat × List DV)) (m : Nat) (st : St) : Prop := ∃ k : Nat, k ≤ 10 ∧ m = 10 - k ∧
  st = mk 145 [(3, .int .u8 drop), (4, .bool wrong), (11, .sl true 5 rows), (12, .lptr 12 0 0), (17, .int .u8 lo), (18, .int .u8 hi), (19, .lptr 19 0 0), (20, .int .i64 k)]
    ((12, 0, th.map .bool) :: (T ++ [(19, 0, [.int .i64 0, .bool true, .str [UInt8.ofNat (97 + lo)], .str [UInt8.ofNat (97 + hi)], .sl true 2 ((upTo th lo hi k).map prD)])])) H []
noncomputable def b5 : Code := (Go.Proofs.Try.f5.body).getD .skip
theorem hb5 : Go.Proofs.Try.f5.body = some b5 := by kernel_rfl
set_option maxHeartbeats 8000000 in
theorem law5 {N0 : Nat} {w0 : World} {d : Nat} {G : Gh} {w : World} {vs : Array Value} (ks : List Int) (fr to drop : Int) (wrong : Bool) (hks : ∀ k ∈ ks, 0 ≤ k ∧ k < 256) (hf0 : 0 ≤ fr) (hf : fr < 256) (ht0 : 0 ≤ to) (ht : to < 256) (hd0 : 0 ≤ drop) (hd : drop < 256)
    (hW : WRel N0 w0 G w []) (hF : Fits G w [.sl false 1 (ks.map (.int .u8)), .int .u8 fr, .int .u8 to, .int .u8 drop, .bool wrong] vs) :
    Calls pp 5 vs w fun e w' => ∃ v, e = .returned v ∧ Back N0 w0 d G w KT v w' := by
  have hI : ∀ w e, (loneJ pp).Ok w e := fun _ _ => trivial
  refine calls_of_code (isObj := isO) (Γ := envOf [(6, SKn), (7, SExp)]) (rs := [10]) mixed (envOf_rc (by simpa using ⟨rcKn, rcExp⟩)) Go.Proofs.Try.func5 hb5 Go.Proofs.Try.results5 Go.Proofs.Try.ntmps5 (by decide) (args := [.sl false 1 (ks.map (.int .u8)), .int .u8 fr, .int .u8 to, .int .u8 drop, .bool wrong]) (by simp) rfl ?_ hW hF
  unfold b5 Go.Proofs.Try.f5
  simp only [List.append_eq, List.cons_append, List.nil_append, Option.getD_some, argSlots, vro_sl, Nat.zero_add, vro_int, Nat.reduceAdd, vro_bool, w_seq, w_region, mk_clean, tS_cons, g_none, hold_app, o_assign, take_const, constDV, mk_put, dropLk, tS_nil, hold_app2, o_fn, args_nil, mk_H, env_cons, Nat.reduceEqDiff, if_false, if_true, dcl_some, List.all_nil, List.map_nil, true_and]
  refine ⟨rfl, fun H1 hF1 => ?_⟩
  by_cases hlen : (20 : Int) < ks.length
  · simp only [hold_app2, mk_called, Pos.isHp, List.filter_nil, mk_put?_some, dropLk, hold_app, tS_cons, g_none, o_un, Nat.reduceLT, rho_tmp, look_hit, u_not, Bool.not_true, tS_nil, w_cond, cd_f, w_skip, w_seq, w_region, mk_clean, o_move, move_tmp, movK, Nat.reduceBEq, look_miss, lkGet, o_len, dl22, List.length_map, o_bin, nil_int, Bool.false_eq_true, rho_const, constDV, b_gtr, hlen, decide_true, cd_t, o_assign, take_const, mk_put, w_ret, ret_one, vfla_bool, true_and, if_false]
    exact rfl
  · simp only [hold_app2, mk_called, Pos.isHp, List.filter_nil, mk_put?_some, dropLk, hold_app, tS_cons, g_none, o_un, Nat.reduceLT, rho_tmp, look_hit, u_not, Bool.not_true, tS_nil, w_cond, cd_f, w_skip, w_seq, w_region, mk_clean, o_move, move_tmp, movK, Nat.reduceBEq, look_miss, lkGet, o_len, dl22, List.length_map, o_bin, nil_int, Bool.false_eq_true, rho_const, constDV, b_gtr, hlen, decide_false, o_assign, take_const, Proofs.Try.underlying24, cn30, mk_put, al45, nv_if, isO_eq, Bool.or_self, vcl_agg, bgen_eq, bget_nil, bset_nil, if_false, w_block]
    have hl20 : ks.length ≤ 20 := by omega
    refine w_loop [0, 1, 2, 3, 4, 11, 12, 13] (MSc H1 ks fr to drop wrong) ks.length ?_ ?_
    · exact ⟨0, [], List.replicate 10 false, [], by omega, by omega, rfl, by simp, There.none, .inl rfl, by simp only [mk_forget, List.map_cons, Nat.reduceBEq, look_miss, look_hit, List.map_nil, nc0]; try rfl⟩
    · rintro m st ⟨i, l, th, T, hi, rfl, hll, hkey, hth, hT, rfl⟩
      have hth10 := hth.len
      by_cases e : i < ks.length
      · have e1 : (i : Int) < ks.length := by omega
        have e2 : (0 : Int) ≤ i := by omega
        have wi : IntKind.i64.wrap ((i : Int) + 1) = ((i + 1 : Nat) : Int) := by rw [wrap_i64 (by omega) (by omega)]; omega
        have hx : (ks.map (DV.int .u8)).getD i .undef = .int .u8 ks[i] := getD_map _ _ i e
        have hb := hks _ (List.getElem_mem e)
        generalize ks[i] = k at hx hb
        obtain ⟨n, hn, hn10⟩ : ∃ n : Nat, k.tmod 10 = (n : Int) ∧ n < 10 := by
          have : k.tmod 10 = k % 10 := Int.tmod_eq_emod_of_nonneg hb.1
          exact ⟨(k % 10).toNat, by omega, by omega⟩
        have n0 : (0 : Int) ≤ n := by omega
        have n10 : (n : Int) < 10 := by omega
        have w97 : IntKind.u8.wrap (97 + (n : Int)) = ((97 + n : Nat) : Int) := by rw [wrap_u8 (by omega) (by omega)]; omega
        obtain ⟨q, hq⟩ : ∃ q, IntKind.u8.wrap (k.tdiv 10) = q := ⟨_, rfl⟩
        have n1 : n + 1 ≤ th.length := by omega
        have hnt : n < th.length := by omega
        by_cases hdel : q.tmod 3 = 2
        · have hdel' : (q.tmod 3 = 2) = True := eq_true hdel
          obtain ⟨g, hb2, hb1⟩ := box7 (s := 12) (s2 := 16) (g := 0) (cs := (th.set n false).map .bool) (by decide) hT
          simp only [w_seq, w_region, mk_clean, tS_cons, g_none, hold_app, o_move, Nat.reduceLT, move_tmp, movK, Nat.reduceBEq, look_miss, look_hit, vroA_int, dropLk, lkGet, o_len, rho_tmp, dl22, List.length_map, mk_put?_some, o_bin, nil_tmp, Bool.false_eq_true, b_lss, e1, decide_true, tS_nil, hold_app2, w_cond, cd_t, w_skip, w_block, o_indexAddr, ix22, e2, Int.toNat_natCast, hx, vcl_int, o_load, ld_vptr, la5, vro_int, lo_int, nil_int, rho_const, constDV, b_rem, ne_eq, Int.reduceEq, not_false_eq_true, hn, o_assign, take_tmp, takK, mk_put, b_quo, hq, b_eql, hdel', vroA_bool, o_un, u_not, Bool.not_true, ixl45, n0, Nat.mul_one, Nat.zero_add, o_store, st_b, bget_cons, if_true, stb_some, Proofs.Try.underlying4, Option.isSome_some, vcl_bool, List.length_cons, List.length_nil, cn4, List.all_cons, vsca_bool, List.all_nil, Bool.and_self, n1, putAt_eq, List.append_assoc, List.cons_append, List.nil_append, put_bools false hnt, mk_setB, bset_cons, Pos.inBox, List.filter_nil, b_add, w97, bs22_1, isO_eq, Bool.or_self, bsl_f, beq_self_eq_true, vsca_int, o_conv, cv22_9b, bd26, bd26_0, vroA_str, bdk_eq, vcl_str, Nat.reduceAdd, Nat.reduceLeDiff, vsca_str, List.take_zero, List.drop_succ_cons, List.drop_zero, bd26_1, List.take_succ_cons, bd_nil, al26, nv_if, vcl_agg, hb2, hb1, if_false, List.map_cons, vro1_str, vro1_bool, List.map_nil, Nat.reduceEqDiff, bget_nil, Proofs.Try.underlying26, cn26, List.drop_nil, List.append_nil, bset_nil, cd_f, Pos.atSlot, wi, ld_b, dlb_some, la26, lo_agg, bs27_1, vro_agg, bd30, bd30_1, bd30_4, vcl_sl, vsca_sl, bs24_1, vro1_int, vro1_sl, o_append, apo24_24, own_slot, part_sl, ownSz_t, un_slot, vroA_sl, ap24_24, apd_own, Bool.or_true, mk_forget, true_and]
          refine ⟨by omega, by omega, by omega, _, ?_, i + 1, l ++ [(((i + 1 : Nat) : Int), ⟨kC n, true, []⟩)], th.set n false, [(16, g, [.str (kC n), .bool true, .str []])], by omega, rfl, by simp; omega, ?_, ?_, .inr ⟨_, _, rfl⟩, ?_⟩
          · omega
          · intro x hx
            rcases List.mem_append.1 hx with hx | hx
            · exact hkey x hx
            · simp at hx; subst hx; simp [kC]
          · rw [f0_snoc]; exact hth.put hn10 true
          · simp only [List.map_append, List.map_cons, List.map_nil, w1D, DC.cells, wrD, kC]
            try rfl
        · have hdel' : (q.tmod 3 = 2) = False := eq_false hdel
          obtain ⟨g, hb2, hb1⟩ := box7 (s := 12) (s2 := 16) (g := 0) (cs := (th.set n true).map .bool) (by decide) hT
          simp only [w_seq, w_region, mk_clean, tS_cons, g_none, hold_app, o_move, Nat.reduceLT, move_tmp, movK, Nat.reduceBEq, look_miss, look_hit, vroA_int, dropLk, lkGet, o_len, rho_tmp, dl22, List.length_map, mk_put?_some, o_bin, nil_tmp, Bool.false_eq_true, b_lss, e1, decide_true, tS_nil, hold_app2, w_cond, cd_t, w_skip, w_block, o_indexAddr, ix22, e2, Int.toNat_natCast, hx, vcl_int, o_load, ld_vptr, la5, vro_int, lo_int, nil_int, rho_const, constDV, b_rem, ne_eq, Int.reduceEq, not_false_eq_true, hn, o_assign, take_tmp, takK, mk_put, b_quo, hq, b_eql, hdel', decide_false, vroA_bool, o_un, u_not, Bool.not_false, ixl45, n0, Nat.mul_one, Nat.zero_add, o_store, st_b, bget_cons, if_true, stb_some, Proofs.Try.underlying4, Option.isSome_some, vcl_bool, List.length_cons, List.length_nil, cn4, List.all_cons, vsca_bool, List.all_nil, Bool.and_self, n1, putAt_eq, List.append_assoc, List.cons_append, List.nil_append, put_bools true hnt, mk_setB, bset_cons, Pos.inBox, List.filter_nil, b_add, w97, bs22_1, isO_eq, Bool.or_self, bsl_f, beq_self_eq_true, vsca_int, o_conv, cv22_9b, bd26, bd26_0, vroA_str, bdk_eq, vcl_str, Nat.reduceAdd, Nat.reduceLeDiff, vsca_str, List.take_zero, List.drop_succ_cons, List.drop_zero, bd26_1, List.take_succ_cons, bd_nil, al26, nv_if, vcl_agg, hb2, hb1, if_false, List.map_cons, vro1_str, vro1_bool, List.map_nil, Nat.reduceEqDiff, bget_nil, Proofs.Try.underlying26, cn26, List.drop_nil, List.append_nil, bset_nil, o_fieldAddr, fl26_2, take_const, Proofs.Try.underlying9, cn9, Pos.atSlot, wi, ld_b, dlb_some, la26, lo_agg, bs27_1, vro_agg, bd30, bd30_1, bd30_4, vcl_sl, vsca_sl, bs24_1, vro1_int, vro1_sl, o_append, apo24_24, own_slot, part_sl, ownSz_t, un_slot, vroA_sl, ap24_24, apd_own, Bool.or_true, mk_forget, true_and]
          refine ⟨by omega, by omega, by omega, _, ?_, i + 1, l ++ [(((i + 1 : Nat) : Int), ⟨kC n, false, [118]⟩)], th.set n true, [(16, g, [.str (kC n), .bool false, .str [118]])], by omega, rfl, by simp; omega, ?_, ?_, .inr ⟨_, _, rfl⟩, ?_⟩
          · omega
          · intro x hx
            rcases List.mem_append.1 hx with hx | hx
            · exact hkey x hx
            · simp at hx; subst hx; simp [kC]
          · rw [f0_snoc]; exact hth.put hn10 false
          · simp only [List.map_append, List.map_cons, List.map_nil, w1D, DC.cells, wrD, kC]
            try rfl
      · have e0 : i = ks.length := by omega
        subst e0
        obtain ⟨lo, hlo, hlo10⟩ : ∃ n : Nat, fr.tmod 10 = (n : Int) ∧ n < 10 := by
          have : fr.tmod 10 = fr % 10 := Int.tmod_eq_emod_of_nonneg hf0
          exact ⟨(fr % 10).toNat, by omega, by omega⟩
        obtain ⟨hh, hhi, hhi10⟩ : ∃ n : Nat, to.tmod 10 = (n : Int) ∧ n < 10 := by
          have : to.tmod 10 = to % 10 := Int.tmod_eq_emod_of_nonneg ht0
          exact ⟨(to % 10).toNat, by omega, by omega⟩
        have wlo : IntKind.u8.wrap (97 + (lo : Int)) = ((97 + lo : Nat) : Int) := by rw [wrap_u8 (by omega) (by omega)]; omega
        have whi : IntKind.u8.wrap (97 + (hh : Int)) = ((97 + hh : Nat) : Int) := by rw [wrap_u8 (by omega) (by omega)]; omega
        have hk2 : ∀ x ∈ l, x.2.key.length ≤ maxLen := fun x hx => by have := hkey x hx; unfold maxLen; omega
        have hl2 : l.length < 1000 := by omega
        have hrd : ∀ ps, readF (seeF noF (l.map w1M)) ⟨0, true, kC lo, kC hh, ps⟩ = upTo th lo hh 10 := fun ps => by
          simp only [readF, if_true, pairs_f0 hth hlo10 hhi10]
          exact List.take_of_length_le (Nat.le_trans (upTo_len th lo hh 10) (by omega))
        have hdv : ∀ ps : List (Str × Str), ps.length < 30 → DealsV H1 (.sl false 5 (l.map (fun x => .agg (w1D x.1 x.2).cells) ++ [.agg (r1D ⟨0, true, kC lo, kC hh, ps⟩).cells])) (l.map w1M ++ [(r1D ⟨0, true, kC lo, kC hh, ps⟩, [⟨0, true, kC lo, kC hh, ps⟩], [])]) := fun ps h => dealsV1 hl2 hk2 (by dsimp; omega)
        have hex : ∀ ps, explF noF (l.map w1M ++ [(r1D ⟨0, true, kC lo, kC hh, ps⟩, [⟨0, true, kC lo, kC hh, ps⟩], [])]) = decide (upTo th lo hh 10 = ps) := fun ps => by rw [expl_w1, hrd]
        have hul := upTo_len th lo hh 10
        rcases hT with rfl | ⟨g, c, rfl⟩
        · simp only [w_seq, w_region, mk_clean, tS_cons, g_none, hold_app, o_move, Nat.reduceLT, move_tmp, movK, Nat.reduceBEq, look_miss, look_hit, vroA_int, dropLk, lkGet, o_len, rho_tmp, dl22, List.length_map, mk_put?_some, o_bin, nil_tmp, Bool.false_eq_true, b_lss, Int.lt_irrefl, decide_false, tS_nil, hold_app2, w_cond, cd_f, w_exit, nil_int, rho_const, constDV, b_rem, ne_eq, Int.reduceEq, not_false_eq_true, hlo, hhi, o_assign, take_tmp, takK, mk_put, b_add, wlo, bs22_1, isO_eq, Bool.or_self, vro_int, bsl_f, List.all_cons, vcl_int, List.length_cons, List.length_nil, Nat.zero_add, beq_self_eq_true, vsca_int, List.all_nil, Bool.and_self, o_conv, cv22_9b, Int.toNat_natCast, whi, bd33, bd33_1, take_const, bdk_eq, vcl_bool, Nat.reduceAdd, Nat.reduceLeDiff, vsca_bool, putAt_eq, List.take_succ_cons, List.take_zero, List.cons_append, List.nil_append, List.drop_succ_cons, List.drop_zero, bd33_2, vroA_str, vcl_str, vsca_str, bd33_3, bd_nil, al33, nv_if, vcl_agg, bgen_eq, bget_cons, Nat.reduceEqDiff, bget_nil, if_false, bset_cons, bset_nil, o_store, List.map_cons, vro1_int, vro1_bool, vro1_str, vro1_sl, List.map_nil, st_b, if_true, stb_some, Proofs.Try.underlying33, Option.isSome_some, cn33, vsca_sl, List.drop_nil, List.append_nil, mk_setB, Pos.inBox, List.filter_nil, w_block, true_and]
          refine w_loop [3, 4, 11, 12, 17, 18, 19, 20] (MS2 H1 drop wrong (l.map fun x => .agg (w1D x.1 x.2).cells) th lo hh []) 10 ?_ ?_
          · exact ⟨0, by omega, by omega, by simp only [mk_forget, List.map_cons, Nat.reduceBEq, look_miss, look_hit, List.map_nil, nc0, List.nil_append]; try rfl⟩
          · rintro m st ⟨k, hk, rfl, rfl⟩
            have k0 : (0 : Int) ≤ k := by omega
            have wk : IntKind.i64.wrap ((k : Int) + 1) = ((k + 1 : Nat) : Int) := by rw [wrap_i64 (by omega) (by omega)]; omega
            have wk8 : IntKind.u8.wrap (k : Int) = k := wrap_u8 (by omega) (by omega)
            have wk97 : IntKind.i64.wrap (97 + (k : Int)) = ((97 + k : Nat) : Int) := by rw [wrap_i64 (by omega) (by omega)]; omega
            have wk97b : IntKind.u8.wrap ((97 + k : Nat) : Int) = ((97 + k : Nat) : Int) := wrap_u8 (by omega) (by omega)
            by_cases f : k < 10
            · have f1 : (k : Int) < 10 := by omega
              have f2 : (k : Int) < ((10 : Nat) : Int) := by omega
              have hdr := drop_bools (th := th) (k := k) (by omega)
              have hus := upTo_succ th lo hh k
              have hku := upTo_len th lo hh k
              generalize th.getD k false = b at hdr hus
              by_cases c1 : (lo : Int) ≤ k <;> by_cases c2 : (k : Int) < hh <;> cases b
              all_goals
                simp only [List.nil_append, w_seq, w_region, mk_clean, tS_cons, g_none, hold_app, o_move, Nat.reduceLT, move_tmp, movK, Nat.reduceBEq, look_miss, look_hit, vroA_int, dropLk, o_bin, nil_int, Bool.false_eq_true, rho_tmp, rho_const, constDV, b_lss, f1, decide_true, mk_put?_some, tS_nil, hold_app2, w_cond, cd_t, w_skip, w_block, o_indexAddr, ixl45, k0, f2, Int.toNat_natCast, Nat.mul_one, Nat.zero_add, o_load, ld_b, bget_cons, Nat.reduceEqDiff, bget_nil, if_false, if_true, dlb_some, hdr, la4, vro_bool, lo_bool, vroA_bool, g_some, gq_succ, gq_zero, gs1_eq, gs2_ft, mk_setT, o_pick, pk, vroA_tup, List.map_nil, cd_f, b_add, wk, o_assign, take_tmp, takK, mk_put, mk_forget, List.map_cons, true_and, gs2_tt, o_conv, cv3_5, wk8, nil_tmp, b_geq, c1, c2, o_fieldAddr, fl33_4, List.drop_succ_cons, List.drop_zero, la31, vro_sl, lo_sl, addrPos, ia31, Pos.atSlot, Bool.or_self, wk97, wk97b, bs22_1, isO_eq, vro_int, bsl_f, List.all_cons, vcl_int, List.length_cons, List.length_nil, beq_self_eq_true, vsca_int, List.all_nil, Bool.and_self, cv22_9b, bd35, bd35_0, vroA_str, bdk_eq, vcl_str, Nat.reduceAdd, Nat.reduceLeDiff, vsca_str, putAt_eq, List.take_zero, List.cons_append, bd35_1, take_const, List.take_succ_cons, List.drop_nil, List.append_nil, bd_nil, bs31_1, vro_agg, vro1_str, vcl_agg, o_append, apo31_31, lkGet, own_box, obx_some, List.getElem?_cons_succ, List.getElem?_cons_zero, ownSz_t, un_box, unbx_some, listRo_eq, List.getD_cons_succ, List.getD_cons_zero, vro1_sl, List.set_cons_succ, List.set_cons_zero, bset_cons, bset_nil, ap31_31, apd_own, List.length_map, o_store, st_b, stb_some, Proofs.Try.underlying31, Option.isSome_some, vcl_sl, cn31, vsca_sl, mk_setB, Pos.inBox, List.filter_cons, Bool.not_true, List.filter_nil, decide_false]
                repeat' apply And.intro
                all_goals first
                  | omega
                  | (refine ⟨_, ?_, k + 1, by omega, rfl, ?_⟩
                     · omega
                     · have d1 : (lo ≤ k) = ((lo : Int) ≤ k) := by simp
                       have d2 : (k < hh) = ((k : Int) < hh) := by simp
                       rw [hus]
                       simp only [d1, d2, c1, c2, decide_true, decide_false, Bool.and_true, Bool.and_false, Bool.true_and, Bool.false_and, if_true, if_false, Bool.false_eq_true, List.append_nil, List.map_append, List.map_cons, List.map_nil, prD, kC]
                       try rfl)
            · have k10 : k = 10 := by omega
              subst k10
              obtain ⟨ps, hps⟩ : ∃ ps, upTo th lo hh 10 = ps := ⟨_, rfl⟩
              rw [hps] at hul hex
              simp only [hps]
              cases wrong
              · simp only [Nat.reduceSub, nc10, List.nil_append, w_seq, w_region, mk_clean, tS_cons, g_none, hold_app, o_move, Nat.reduceLT, move_tmp, movK, Nat.reduceBEq, look_miss, look_hit, vroA_int, dropLk, o_bin, nil_int, Bool.false_eq_true, rho_tmp, rho_const, constDV, b_lss, Int.reduceLT, decide_false, mk_put?_some, tS_nil, hold_app2, w_cond, cd_f, w_exit, o_assign, take_const, mk_put, vroA_bool, g_some, gq_succ, gq_zero, gs1_eq, gs2_ft, mk_setT, o_pick, pk, vroA_tup, List.map_nil, if_false, w_skip, Nat.reduceEqDiff, o_load, ld_b, bget_cons, bget_nil, if_true, dlb_some, List.drop_zero, la33, List.length_cons, List.length_nil, Nat.zero_add, Nat.reduceAdd, Nat.reduceLeDiff, List.take_succ_cons, List.take_zero, List.map_cons, vro1_int, vro1_bool, vro1_str, vro1_sl, lo_agg, Pos.atSlot, Bool.or_self, bs28_1, isO_eq, vro_agg, bsl_f, List.all_cons, vcl_agg, beq_self_eq_true, vsca_int, vsca_bool, vsca_str, vsca_sl, List.all_nil, Bool.and_self, bd30, bd30_3, take_tmp, takK, bdk_eq, vcl_sl, putAt_eq, List.cons_append, List.drop_succ_cons, bd_nil, bs24_1, o_append, apo24_24, lkGet, own_slot, part_sl, ownSz_t, un_slot, vroA_sl, ap24_24, apd_own, List.length_map, o_fn, args_cons, args_nil, mk_H, env_cons, dcl_some, vfla_sl, vro_sl, true_and]
                refine ⟨by omega, by omega, _, _, rfl, hdv ps (by omega), fun H' hF' => ?_⟩
                have hx : explF noF (l.map w1M ++ [(r1D ⟨0, true, kC lo, kC hh, ps⟩, [⟨0, true, kC lo, kC hh, ps⟩], [])]) = true := by rw [hex]; simp
                simp only [hx, hold_app2, mk_called, Pos.isHp, List.filter_cons, Bool.not_false, List.filter_nil, if_true, mk_put?_some, dropLk, Nat.reduceBEq, Pos.atSlot, Bool.or_self, Bool.false_eq_true, if_false, hold_app, tS_cons, g_none, o_move, Nat.reduceLT, move_tmp, movK, look_miss, look_hit, vroA_bool, o_un, rho_tmp, u_not, o_bin, nil_tmp, t_eql Go.Proofs.Try.underlying4, beq_self_eq_true, o_assign, take_tmp, takK, mk_put, tS_nil, w_ret, ret_one, vfla_bool, true_and]
                exact rfl
              · by_cases hp : (0 : Int) < ps.length
                · obtain ⟨j, hj, hj2⟩ : ∃ j : Nat, (IntKind.i64.wrap drop).tmod ps.length = (j : Int) ∧ j < ps.length := by
                    have e1 : IntKind.i64.wrap drop = drop := wrap_i64 (by omega) (by omega)
                    have e2 : drop.tmod ps.length = drop % ps.length := Int.tmod_eq_emod_of_nonneg hd0
                    have e3 := Int.emod_nonneg drop (b := ps.length) (by omega)
                    have e4 := Int.emod_lt_of_pos drop (b := (ps.length : Int)) hp
                    rw [e1, e2]
                    exact ⟨(drop % ps.length).toNat, by omega, by omega⟩
                  have j0 : (0 : Int) ≤ j := by omega
                  have j1 : (j : Int) ≤ ps.length := by omega
                  have wj : IntKind.i64.wrap ((j : Int) + 1) = ((j + 1 : Nat) : Int) := by rw [wrap_i64 (by omega) (by omega)]; omega
                  have hp0 : ¬ ((ps.length : Int) = 0) := by omega
                  simp only [Nat.reduceSub, nc10, List.nil_append, w_seq, w_region, mk_clean, tS_cons, g_none, hold_app, o_move, Nat.reduceLT, move_tmp, movK, Nat.reduceBEq, look_miss, look_hit, vroA_int, dropLk, o_bin, nil_int, Bool.false_eq_true, rho_tmp, rho_const, constDV, b_lss, Int.reduceLT, decide_false, mk_put?_some, tS_nil, hold_app2, w_cond, cd_f, w_exit, o_assign, take_const, mk_put, vroA_bool, g_some, gq_succ, gq_zero, gs1_eq, gs2_tt, mk_setT, o_fieldAddr, fl33_4, Nat.zero_add, o_load, ld_b, bget_cons, Nat.reduceEqDiff, bget_nil, if_true, if_false, dlb_some, List.drop_succ_cons, List.drop_zero, la31, vro_sl, lo_sl, addrPos, ia31, o_len, dl31, List.length_map, Pos.atSlot, Bool.or_self, b_gtr, hp, decide_true, o_pick, pk, cd_t, o_conv, cv5_3, nil_tmp, b_rem, ne_eq, hp0, not_false_eq_true, hj, take_tmp, takK, true_and]
                  refine w_draw [3, 4, 9, 10, 12] (.quiet 0 (.quiet 1 (.quiet 2 (.quiet 5 (.quiet 6 (.quiet 7 (.quiet 8 (.acts [(3, [8, 7, 6, 5], .acts [(4, [8, 7, 6, 5], .acts [(9, [2, 1, 0], .acts [(10, [], .quiet 11 (.acts [(12, [], .done)]))])]), (9, [2, 1, 0], .acts [(4, [8, 7, 6, 5], .acts [(10, [], .quiet 11 (.acts [(12, [], .done)]))])])]), (9, [2, 1, 0], .acts [(3, [8, 7, 6, 5], .acts [(4, [8, 7, 6, 5], .acts [(10, [], .quiet 11 (.acts [(12, [], .done)]))])])])])))))))) (by decide) (by kernel_rfl) ?_
                  simp only [mk_clean, rp_quiet, rpQ_zero, g_none, hold_app, q_fieldAddr, Nat.reduceLT, rho_tmp, Nat.reduceBEq, look_miss, look_hit, fl33_4, Nat.zero_add, ex_eq, mk_put, dropLk, rpQ_succ, q_load, ld_b, bget_cons, Nat.reduceEqDiff, bget_nil, if_true, if_false, dlb_some, List.drop_succ_cons, List.drop_zero, la31, vro_sl, true_and, q_move, vroA_int, q_bin, rho_const, constDV, b_add, wj, rp_acts, ra_cons, rpA_succ, rpA_zero, o_slice, Option.map_none, Option.map_some, sc31, List.length_map, mk_put?_some, rcA_cons, rcW_succ, rcW_zero, mk_t, and_true, rcA_nil, slL_cons, slW_succ, slW_zero, slL_nil, mk_unlink, dropLks, o_append, isO_eq, Bool.or_self, Bool.false_eq_true, apo31_31, take_const, Proofs.Try.underlying31, cn35, ap31_31, apd_own, List.length_nil, List.nil_append, take_tmp, takK, o_store, st_b, stb_some, Option.isSome_some, vcl_sl, List.length_cons, cn31, List.all_cons, vsca_sl, List.all_nil, Bool.and_self, Nat.reduceAdd, Nat.reduceLeDiff, putAt_eq, List.take_succ_cons, List.take_zero, List.cons_append, List.drop_nil, List.append_nil, mk_setB, bset_cons, bset_nil, Pos.inBox, List.filter_nil, rp_done, hold_app2, w_region, tS_cons, o_assign, tS_nil, w_seq, o_move, move_tmp, movK, o_load, la33, List.map_cons, vro1_int, vro1_bool, vro1_str, vro1_sl, List.map_nil, lo_agg, Pos.atSlot, bs28_1, vro_agg, bsl_f, vcl_agg, beq_self_eq_true, vsca_int, vsca_bool, vsca_str, bd30, bd30_3, bdk_eq, bd_nil, bs24_1, apo24_24, lkGet, own_slot, part_sl, ownSz_t, un_slot, vroA_sl, ap24_24, o_fn, args_cons, args_nil, mk_H, env_cons, dcl_some, vfla_sl, ra_nil, db_some, Int.toNat_natCast, db_none, j0, j1]
                  have hcut : List.take j (List.map prD ps) ++ List.drop (j + 1) (List.take ps.length (List.map prD ps)) = (ps.take j ++ ps.drop (j + 1)).map prD := by
                    have h1 : List.take ps.length (List.map prD ps) = List.map prD ps := List.take_of_length_le (by simp)
                    rw [h1, List.map_append, List.map_take, List.map_drop]
                  rw [hcut]
                  repeat' apply And.intro
                  all_goals first
                    | omega
                    | (simp only [List.length_take, List.length_drop, List.length_map]; omega)
                    | (refine ⟨_, _, rfl, hdv (ps.take j ++ ps.drop (j + 1)) (by simp; omega), fun H' hF' => ?_⟩
                       have hx : explF noF (l.map w1M ++ [(r1D ⟨0, true, kC lo, kC hh, ps.take j ++ ps.drop (j + 1)⟩, [⟨0, true, kC lo, kC hh, ps.take j ++ ps.drop (j + 1)⟩], [])]) = false := by
                         rw [hex]; exact decide_eq_false (lacks hj2)
                       simp only [hx, hold_app2, List.drop_zero, mk_called, Pos.isHp, List.filter_cons, Bool.not_false, List.filter_nil, if_true, mk_put?_some, dropLk, Nat.reduceBEq, Pos.atSlot, Bool.or_self, Bool.false_eq_true, if_false, hold_app, tS_cons, g_none, o_move, Nat.reduceLT, move_tmp, movK, look_miss, look_hit, vroA_bool, o_un, rho_tmp, u_not, Bool.not_true, o_bin, nil_tmp, t_eql Go.Proofs.Try.underlying4, beq_self_eq_true, o_assign, take_tmp, takK, mk_put, tS_nil, w_ret, ret_one, vfla_bool, true_and]
                       exact rfl)
                · simp only [Nat.reduceSub, nc10, List.nil_append, w_seq, w_region, mk_clean, tS_cons, g_none, hold_app, o_move, Nat.reduceLT, move_tmp, movK, Nat.reduceBEq, look_miss, look_hit, vroA_int, dropLk, o_bin, nil_int, Bool.false_eq_true, rho_tmp, rho_const, constDV, b_lss, Int.reduceLT, decide_false, mk_put?_some, tS_nil, hold_app2, w_cond, cd_f, w_exit, o_assign, take_const, mk_put, vroA_bool, g_some, gq_succ, gq_zero, gs1_eq, gs2_tt, mk_setT, o_fieldAddr, fl33_4, Nat.zero_add, o_load, ld_b, bget_cons, Nat.reduceEqDiff, bget_nil, if_true, if_false, dlb_some, List.drop_succ_cons, List.drop_zero, la31, vro_sl, lo_sl, addrPos, ia31, o_len, dl31, List.length_map, Pos.atSlot, Bool.or_self, b_gtr, hp, o_pick, pk, w_skip, la33, List.length_cons, List.length_nil, Nat.reduceAdd, Nat.reduceLeDiff, List.take_succ_cons, List.take_zero, List.map_cons, vro1_int, vro1_bool, vro1_str, vro1_sl, List.map_nil, lo_agg, bs28_1, isO_eq, vro_agg, bsl_f, List.all_cons, vcl_agg, beq_self_eq_true, vsca_int, vsca_bool, vsca_str, vsca_sl, List.all_nil, Bool.and_self, bd30, bd30_3, take_tmp, takK, bdk_eq, vcl_sl, putAt_eq, List.cons_append, bd_nil, bs24_1, o_append, apo24_24, lkGet, own_slot, part_sl, ownSz_t, un_slot, vroA_sl, ap24_24, apd_own, o_fn, args_cons, args_nil, mk_H, env_cons, dcl_some, vfla_sl, true_and]
                  refine ⟨by omega, by omega, _, _, rfl, hdv ps (by omega), fun H' hF' => ?_⟩
                  have hx : explF noF (l.map w1M ++ [(r1D ⟨0, true, kC lo, kC hh, ps⟩, [⟨0, true, kC lo, kC hh, ps⟩], [])]) = true := by rw [hex]; simp
                  simp only [hx, hold_app2, mk_called, Pos.isHp, List.filter_cons, Bool.not_false, List.filter_nil, if_true, mk_put?_some, dropLk, Nat.reduceBEq, Pos.atSlot, Bool.or_self, Bool.false_eq_true, if_false, hold_app, tS_cons, g_none, o_move, Nat.reduceLT, move_tmp, movK, look_miss, look_hit, vroA_bool, o_un, rho_tmp, u_not, o_bin, nil_tmp, t_eql Go.Proofs.Try.underlying4, beq_self_eq_true, o_assign, take_tmp, takK, mk_put, tS_nil, w_ret, ret_one, vfla_bool, true_and]
                  exact rfl
        · simp only [w_seq, w_region, mk_clean, tS_cons, g_none, hold_app, o_move, Nat.reduceLT, move_tmp, movK, Nat.reduceBEq, look_miss, look_hit, vroA_int, dropLk, lkGet, o_len, rho_tmp, dl22, List.length_map, mk_put?_some, o_bin, nil_tmp, Bool.false_eq_true, b_lss, Int.lt_irrefl, decide_false, tS_nil, hold_app2, w_cond, cd_f, w_exit, nil_int, rho_const, constDV, b_rem, ne_eq, Int.reduceEq, not_false_eq_true, hlo, hhi, o_assign, take_tmp, takK, mk_put, b_add, wlo, bs22_1, isO_eq, Bool.or_self, vro_int, bsl_f, List.all_cons, vcl_int, List.length_cons, List.length_nil, Nat.zero_add, beq_self_eq_true, vsca_int, List.all_nil, Bool.and_self, o_conv, cv22_9b, Int.toNat_natCast, whi, bd33, bd33_1, take_const, bdk_eq, vcl_bool, Nat.reduceAdd, Nat.reduceLeDiff, vsca_bool, putAt_eq, List.take_succ_cons, List.take_zero, List.cons_append, List.nil_append, List.drop_succ_cons, List.drop_zero, bd33_2, vroA_str, vcl_str, vsca_str, bd33_3, bd_nil, al33, nv_if, vcl_agg, bgen_eq, bget_cons, Nat.reduceEqDiff, bget_nil, if_false, bset_cons, bset_nil, o_store, List.map_cons, vro1_int, vro1_bool, vro1_str, vro1_sl, List.map_nil, st_b, if_true, stb_some, Proofs.Try.underlying33, Option.isSome_some, cn33, vsca_sl, List.drop_nil, List.append_nil, mk_setB, Pos.inBox, List.filter_nil, w_block, true_and]
          refine w_loop [3, 4, 11, 12, 17, 18, 19, 20] (MS2 H1 drop wrong (l.map fun x => .agg (w1D x.1 x.2).cells) th lo hh [(16, g, c)]) 10 ?_ ?_
          · exact ⟨0, by omega, by omega, by simp only [mk_forget, List.map_cons, Nat.reduceBEq, look_miss, look_hit, List.map_nil, nc0, List.cons_append, List.nil_append]; try rfl⟩
          · rintro m st ⟨k, hk, rfl, rfl⟩
            have k0 : (0 : Int) ≤ k := by omega
            have wk : IntKind.i64.wrap ((k : Int) + 1) = ((k + 1 : Nat) : Int) := by rw [wrap_i64 (by omega) (by omega)]; omega
            have wk8 : IntKind.u8.wrap (k : Int) = k := wrap_u8 (by omega) (by omega)
            have wk97 : IntKind.i64.wrap (97 + (k : Int)) = ((97 + k : Nat) : Int) := by rw [wrap_i64 (by omega) (by omega)]; omega
            have wk97b : IntKind.u8.wrap ((97 + k : Nat) : Int) = ((97 + k : Nat) : Int) := wrap_u8 (by omega) (by omega)
            by_cases f : k < 10
            · have f1 : (k : Int) < 10 := by omega
              have f2 : (k : Int) < ((10 : Nat) : Int) := by omega
              have hdr := drop_bools (th := th) (k := k) (by omega)
              have hus := upTo_succ th lo hh k
              have hku := upTo_len th lo hh k
              generalize th.getD k false = b at hdr hus
              by_cases c1 : (lo : Int) ≤ k <;> by_cases c2 : (k : Int) < hh <;> cases b
              all_goals
                simp only [List.cons_append, List.nil_append, w_seq, w_region, mk_clean, tS_cons, g_none, hold_app, o_move, Nat.reduceLT, move_tmp, movK, Nat.reduceBEq, look_miss, look_hit, vroA_int, dropLk, o_bin, nil_int, Bool.false_eq_true, rho_tmp, rho_const, constDV, b_lss, f1, decide_true, mk_put?_some, tS_nil, hold_app2, w_cond, cd_t, w_skip, w_block, o_indexAddr, ixl45, k0, f2, Int.toNat_natCast, Nat.mul_one, Nat.zero_add, o_load, ld_b, bget_cons, Nat.reduceEqDiff, bget_nil, if_false, if_true, dlb_some, hdr, la4, vro_bool, lo_bool, vroA_bool, g_some, gq_succ, gq_zero, gs1_eq, gs2_ft, mk_setT, o_pick, pk, vroA_tup, List.map_nil, cd_f, b_add, wk, o_assign, take_tmp, takK, mk_put, mk_forget, List.map_cons, true_and, gs2_tt, o_conv, cv3_5, wk8, nil_tmp, b_geq, c1, c2, o_fieldAddr, fl33_4, List.drop_succ_cons, List.drop_zero, la31, vro_sl, lo_sl, addrPos, ia31, Pos.atSlot, Bool.or_self, wk97, wk97b, bs22_1, isO_eq, vro_int, bsl_f, List.all_cons, vcl_int, List.length_cons, List.length_nil, beq_self_eq_true, vsca_int, List.all_nil, Bool.and_self, cv22_9b, bd35, bd35_0, vroA_str, bdk_eq, vcl_str, Nat.reduceAdd, Nat.reduceLeDiff, vsca_str, putAt_eq, List.take_zero, bd35_1, take_const, List.take_succ_cons, List.drop_nil, List.append_nil, bd_nil, bs31_1, vro_agg, vro1_str, vcl_agg, o_append, apo31_31, lkGet, own_box, obx_some, List.getElem?_cons_succ, List.getElem?_cons_zero, ownSz_t, un_box, unbx_some, listRo_eq, List.getD_cons_succ, List.getD_cons_zero, vro1_sl, List.set_cons_succ, List.set_cons_zero, bset_cons, bset_nil, ap31_31, apd_own, List.length_map, o_store, st_b, stb_some, Proofs.Try.underlying31, Option.isSome_some, vcl_sl, cn31, vsca_sl, mk_setB, Pos.inBox, List.filter_cons, Bool.not_true, List.filter_nil, decide_false]
                repeat' apply And.intro
                all_goals first
                  | omega
                  | (refine ⟨_, ?_, k + 1, by omega, rfl, ?_⟩
                     · omega
                     · have d1 : (lo ≤ k) = ((lo : Int) ≤ k) := by simp
                       have d2 : (k < hh) = ((k : Int) < hh) := by simp
                       rw [hus]
                       simp only [d1, d2, c1, c2, decide_true, decide_false, Bool.and_true, Bool.and_false, Bool.true_and, Bool.false_and, if_true, if_false, Bool.false_eq_true, List.append_nil, List.map_append, List.map_cons, List.map_nil, prD, kC]
                       try rfl)
            · have k10 : k = 10 := by omega
              subst k10
              obtain ⟨ps, hps⟩ : ∃ ps, upTo th lo hh 10 = ps := ⟨_, rfl⟩
              rw [hps] at hul hex
              simp only [hps]
              cases wrong
              · simp only [Nat.reduceSub, nc10, List.cons_append, List.nil_append, w_seq, w_region, mk_clean, tS_cons, g_none, hold_app, o_move, Nat.reduceLT, move_tmp, movK, Nat.reduceBEq, look_miss, look_hit, vroA_int, dropLk, o_bin, nil_int, Bool.false_eq_true, rho_tmp, rho_const, constDV, b_lss, Int.reduceLT, decide_false, mk_put?_some, tS_nil, hold_app2, w_cond, cd_f, w_exit, o_assign, take_const, mk_put, vroA_bool, g_some, gq_succ, gq_zero, gs1_eq, gs2_ft, mk_setT, o_pick, pk, vroA_tup, List.map_nil, if_false, w_skip, Nat.reduceEqDiff, o_load, ld_b, bget_cons, bget_nil, if_true, dlb_some, List.drop_zero, la33, List.length_cons, List.length_nil, Nat.zero_add, Nat.reduceAdd, Nat.reduceLeDiff, List.take_succ_cons, List.take_zero, List.map_cons, vro1_int, vro1_bool, vro1_str, vro1_sl, lo_agg, Pos.atSlot, Bool.or_self, bs28_1, isO_eq, vro_agg, bsl_f, List.all_cons, vcl_agg, beq_self_eq_true, vsca_int, vsca_bool, vsca_str, vsca_sl, List.all_nil, Bool.and_self, bd30, bd30_3, take_tmp, takK, bdk_eq, vcl_sl, putAt_eq, List.drop_succ_cons, bd_nil, bs24_1, o_append, apo24_24, lkGet, own_slot, part_sl, ownSz_t, un_slot, vroA_sl, ap24_24, apd_own, List.length_map, o_fn, args_cons, args_nil, mk_H, env_cons, dcl_some, vfla_sl, vro_sl, true_and]
                refine ⟨by omega, by omega, _, _, rfl, hdv ps (by omega), fun H' hF' => ?_⟩
                have hx : explF noF (l.map w1M ++ [(r1D ⟨0, true, kC lo, kC hh, ps⟩, [⟨0, true, kC lo, kC hh, ps⟩], [])]) = true := by rw [hex]; simp
                simp only [hx, hold_app2, mk_called, Pos.isHp, List.filter_cons, Bool.not_false, List.filter_nil, if_true, mk_put?_some, dropLk, Nat.reduceBEq, Pos.atSlot, Bool.or_self, Bool.false_eq_true, if_false, hold_app, tS_cons, g_none, o_move, Nat.reduceLT, move_tmp, movK, look_miss, look_hit, vroA_bool, o_un, rho_tmp, u_not, o_bin, nil_tmp, t_eql Go.Proofs.Try.underlying4, beq_self_eq_true, o_assign, take_tmp, takK, mk_put, tS_nil, w_ret, ret_one, vfla_bool, true_and]
                exact rfl
              · by_cases hp : (0 : Int) < ps.length
                · obtain ⟨j, hj, hj2⟩ : ∃ j : Nat, (IntKind.i64.wrap drop).tmod ps.length = (j : Int) ∧ j < ps.length := by
                    have e1 : IntKind.i64.wrap drop = drop := wrap_i64 (by omega) (by omega)
                    have e2 : drop.tmod ps.length = drop % ps.length := Int.tmod_eq_emod_of_nonneg hd0
                    have e3 := Int.emod_nonneg drop (b := ps.length) (by omega)
                    have e4 := Int.emod_lt_of_pos drop (b := (ps.length : Int)) hp
                    rw [e1, e2]
                    exact ⟨(drop % ps.length).toNat, by omega, by omega⟩
                  have j0 : (0 : Int) ≤ j := by omega
                  have j1 : (j : Int) ≤ ps.length := by omega
                  have wj : IntKind.i64.wrap ((j : Int) + 1) = ((j + 1 : Nat) : Int) := by rw [wrap_i64 (by omega) (by omega)]; omega
                  have hp0 : ¬ ((ps.length : Int) = 0) := by omega
                  simp only [Nat.reduceSub, nc10, List.cons_append, List.nil_append, w_seq, w_region, mk_clean, tS_cons, g_none, hold_app, o_move, Nat.reduceLT, move_tmp, movK, Nat.reduceBEq, look_miss, look_hit, vroA_int, dropLk, o_bin, nil_int, Bool.false_eq_true, rho_tmp, rho_const, constDV, b_lss, Int.reduceLT, decide_false, mk_put?_some, tS_nil, hold_app2, w_cond, cd_f, w_exit, o_assign, take_const, mk_put, vroA_bool, g_some, gq_succ, gq_zero, gs1_eq, gs2_tt, mk_setT, o_fieldAddr, fl33_4, Nat.zero_add, o_load, ld_b, bget_cons, Nat.reduceEqDiff, bget_nil, if_true, if_false, dlb_some, List.drop_succ_cons, List.drop_zero, la31, vro_sl, lo_sl, addrPos, ia31, o_len, dl31, List.length_map, Pos.atSlot, Bool.or_self, b_gtr, hp, decide_true, o_pick, pk, cd_t, o_conv, cv5_3, nil_tmp, b_rem, ne_eq, hp0, not_false_eq_true, hj, take_tmp, takK, true_and]
                  refine w_draw [3, 4, 9, 10, 12] (.quiet 0 (.quiet 1 (.quiet 2 (.quiet 5 (.quiet 6 (.quiet 7 (.quiet 8 (.acts [(3, [8, 7, 6, 5], .acts [(4, [8, 7, 6, 5], .acts [(9, [2, 1, 0], .acts [(10, [], .quiet 11 (.acts [(12, [], .done)]))])]), (9, [2, 1, 0], .acts [(4, [8, 7, 6, 5], .acts [(10, [], .quiet 11 (.acts [(12, [], .done)]))])])]), (9, [2, 1, 0], .acts [(3, [8, 7, 6, 5], .acts [(4, [8, 7, 6, 5], .acts [(10, [], .quiet 11 (.acts [(12, [], .done)]))])])])])))))))) (by decide) (by kernel_rfl) ?_
                  simp only [mk_clean, rp_quiet, rpQ_zero, g_none, hold_app, q_fieldAddr, Nat.reduceLT, rho_tmp, Nat.reduceBEq, look_miss, look_hit, fl33_4, Nat.zero_add, ex_eq, mk_put, dropLk, rpQ_succ, q_load, ld_b, bget_cons, Nat.reduceEqDiff, bget_nil, if_true, if_false, dlb_some, List.drop_succ_cons, List.drop_zero, la31, vro_sl, true_and, q_move, vroA_int, q_bin, rho_const, constDV, b_add, wj, rp_acts, ra_cons, rpA_succ, rpA_zero, o_slice, Option.map_none, Option.map_some, sc31, List.length_map, mk_put?_some, rcA_cons, rcW_succ, rcW_zero, mk_t, and_true, rcA_nil, slL_cons, slW_succ, slW_zero, slL_nil, mk_unlink, dropLks, o_append, isO_eq, Bool.or_self, Bool.false_eq_true, apo31_31, take_const, Proofs.Try.underlying31, cn35, ap31_31, apd_own, List.length_nil, List.nil_append, take_tmp, takK, o_store, st_b, stb_some, Option.isSome_some, vcl_sl, List.length_cons, cn31, List.all_cons, vsca_sl, List.all_nil, Bool.and_self, Nat.reduceAdd, Nat.reduceLeDiff, putAt_eq, List.take_succ_cons, List.take_zero, List.cons_append, List.drop_nil, List.append_nil, mk_setB, bset_cons, bset_nil, Pos.inBox, List.filter_nil, rp_done, hold_app2, w_region, tS_cons, o_assign, tS_nil, w_seq, o_move, move_tmp, movK, o_load, la33, List.map_cons, vro1_int, vro1_bool, vro1_str, vro1_sl, List.map_nil, lo_agg, Pos.atSlot, bs28_1, vro_agg, bsl_f, vcl_agg, beq_self_eq_true, vsca_int, vsca_bool, vsca_str, bd30, bd30_3, bdk_eq, bd_nil, bs24_1, apo24_24, lkGet, own_slot, part_sl, ownSz_t, un_slot, vroA_sl, ap24_24, o_fn, args_cons, args_nil, mk_H, env_cons, dcl_some, vfla_sl, ra_nil, db_some, Int.toNat_natCast, db_none, j0, j1]
                  have hcut : List.take j (List.map prD ps) ++ List.drop (j + 1) (List.take ps.length (List.map prD ps)) = (ps.take j ++ ps.drop (j + 1)).map prD := by
                    have h1 : List.take ps.length (List.map prD ps) = List.map prD ps := List.take_of_length_le (by simp)
                    rw [h1, List.map_append, List.map_take, List.map_drop]
                  rw [hcut]
                  repeat' apply And.intro
                  all_goals first
                    | omega
                    | (simp only [List.length_take, List.length_drop, List.length_map]; omega)
                    | (refine ⟨_, _, rfl, hdv (ps.take j ++ ps.drop (j + 1)) (by simp; omega), fun H' hF' => ?_⟩
                       have hx : explF noF (l.map w1M ++ [(r1D ⟨0, true, kC lo, kC hh, ps.take j ++ ps.drop (j + 1)⟩, [⟨0, true, kC lo, kC hh, ps.take j ++ ps.drop (j + 1)⟩], [])]) = false := by
                         rw [hex]; exact decide_eq_false (lacks hj2)
                       simp only [hx, hold_app2, List.drop_zero, mk_called, Pos.isHp, List.filter_cons, Bool.not_false, List.filter_nil, if_true, mk_put?_some, dropLk, Nat.reduceBEq, Pos.atSlot, Bool.or_self, Bool.false_eq_true, if_false, hold_app, tS_cons, g_none, o_move, Nat.reduceLT, move_tmp, movK, look_miss, look_hit, vroA_bool, o_un, rho_tmp, u_not, Bool.not_true, o_bin, nil_tmp, t_eql Go.Proofs.Try.underlying4, beq_self_eq_true, o_assign, take_tmp, takK, mk_put, tS_nil, w_ret, ret_one, vfla_bool, true_and]
                       exact rfl)
                · simp only [Nat.reduceSub, nc10, List.cons_append, List.nil_append, w_seq, w_region, mk_clean, tS_cons, g_none, hold_app, o_move, Nat.reduceLT, move_tmp, movK, Nat.reduceBEq, look_miss, look_hit, vroA_int, dropLk, o_bin, nil_int, Bool.false_eq_true, rho_tmp, rho_const, constDV, b_lss, Int.reduceLT, decide_false, mk_put?_some, tS_nil, hold_app2, w_cond, cd_f, w_exit, o_assign, take_const, mk_put, vroA_bool, g_some, gq_succ, gq_zero, gs1_eq, gs2_tt, mk_setT, o_fieldAddr, fl33_4, Nat.zero_add, o_load, ld_b, bget_cons, Nat.reduceEqDiff, bget_nil, if_true, if_false, dlb_some, List.drop_succ_cons, List.drop_zero, la31, vro_sl, lo_sl, addrPos, ia31, o_len, dl31, List.length_map, Pos.atSlot, Bool.or_self, b_gtr, hp, o_pick, pk, w_skip, la33, List.length_cons, List.length_nil, Nat.reduceAdd, Nat.reduceLeDiff, List.take_succ_cons, List.take_zero, List.map_cons, vro1_int, vro1_bool, vro1_str, vro1_sl, List.map_nil, lo_agg, bs28_1, isO_eq, vro_agg, bsl_f, List.all_cons, vcl_agg, beq_self_eq_true, vsca_int, vsca_bool, vsca_str, vsca_sl, List.all_nil, Bool.and_self, bd30, bd30_3, take_tmp, takK, bdk_eq, vcl_sl, putAt_eq, bd_nil, bs24_1, o_append, apo24_24, lkGet, own_slot, part_sl, ownSz_t, un_slot, vroA_sl, ap24_24, apd_own, o_fn, args_cons, args_nil, mk_H, env_cons, dcl_some, vfla_sl, true_and]
                  refine ⟨by omega, by omega, _, _, rfl, hdv ps (by omega), fun H' hF' => ?_⟩
                  have hx : explF noF (l.map w1M ++ [(r1D ⟨0, true, kC lo, kC hh, ps⟩, [⟨0, true, kC lo, kC hh, ps⟩], [])]) = true := by rw [hex]; simp
                  simp only [hx, hold_app2, mk_called, Pos.isHp, List.filter_cons, Bool.not_false, List.filter_nil, if_true, mk_put?_some, dropLk, Nat.reduceBEq, Pos.atSlot, Bool.or_self, Bool.false_eq_true, if_false, hold_app, tS_cons, g_none, o_move, Nat.reduceLT, move_tmp, movK, look_miss, look_hit, vroA_bool, o_un, rho_tmp, u_not, o_bin, nil_tmp, t_eql Go.Proofs.Try.underlying4, beq_self_eq_true, o_assign, take_tmp, takK, mk_put, tS_nil, w_ret, ret_one, vfla_bool, true_and]
                  exact rfl
end Go.Ab.Or
