/- A part of the proofs that a law function returns true at every input; it has no condition of its own. -/
import Derived.Test.YtefaplodmbdhlaaOrG
set_option linter.unusedSimpArgs false
set_option linter.unusedVariables false
/- OrH: The order laws: reads, deals held against themselves. -/
namespace Go.Ab.Or
open Go Go.Conc Go.RowKit Go.Ab
set_option maxRecDepth 10000
@[ext] structure RD where
  lv : Int
  scan : Bool
  fr : Str
  to : Str
  pairs : List (Str × Str)
def RD.cells (x : RD) : List DV := [.int .i64 x.lv, .bool x.scan, .str x.fr, .str x.to, .sl false 2 (x.pairs.map prD)]
/-- A row, its elements by their cells: an immutable one, or part of an object. -/
def RowV (H : List HObj) (sz : Nat) (v : DV) (rows : List (List DV)) : Prop :=
  v = .sl false sz (rows.map .agg) ∨ ∃ id off cs, v = .hsl id sz off rows.length ∧ H[id]? = some (.cells cs) ∧ ∀ (i : Nat) (r : List DV), rows[i]? = some r → ∃ r' rest, cs.drop (off + i * sz) = r' ++ rest ∧ r'.map DV.ro1 = r
theorem ro1_int {x : DV} {k : IntKind} {n : Int} (h : x.ro1 = .int k n) : x = .int k n := by cases x <;> simp_all [DV.ro1]
theorem ro1_bool {x : DV} {b : Bool} (h : x.ro1 = .bool b) : x = .bool b := by cases x <;> simp_all [DV.ro1]
theorem ro1_str {x : DV} {s : Str} (h : x.ro1 = .str s) : x = .str s := by cases x <;> simp_all [DV.ro1]
theorem ro1_sl {x : DV} {sz : Nat} {l : List DV} (h : x.ro1 = .sl false sz l) : ∃ o, x = .sl o sz l := by
  cases x <;> simp_all [DV.ro1]
theorem five {l : List DV} (h : l.length = 5) : ∃ a b c d e, l = [a, b, c, d, e] := by
  rcases l with _ | ⟨a, _ | ⟨b, _ | ⟨c, _ | ⟨d, _ | ⟨e, _ | ⟨f, l⟩⟩⟩⟩⟩⟩ <;> simp at h
  exact ⟨a, b, c, d, e, rfl⟩
theorem rd_ro {r : List DV} {R : RD} (h : r.map DV.ro1 = R.cells) : ∃ o, r = [.int .i64 R.lv, .bool R.scan, .str R.fr, .str R.to, .sl o 2 (R.pairs.map prD)] := by
  obtain ⟨a, b, c, d, e, rfl⟩ := five (l := r) (by have := congrArg List.length h; simpa [RD.cells] using this)
  ·
    simp only [RD.cells, List.map_cons, List.map_nil, List.cons.injEq, and_true] at h
    obtain ⟨h1, h2, h3, h4, h5⟩ := h
    obtain rfl := ro1_int h1
    obtain rfl := ro1_bool h2
    obtain rfl := ro1_str h3
    obtain rfl := ro1_str h4
    obtain ⟨o, rfl⟩ := ro1_sl h5
    exact ⟨o, rfl⟩
theorem dc_ro {r : List DV} {D : DC} (h : r.map DV.ro1 = D.cells) : ∃ r1 w1, r = [.int .i64 D.lv, .int .i64 D.n, .int .i64 D.turn, r1, w1] ∧ r1.ro1 = D.r ∧ w1.ro1 = D.w := by
  obtain ⟨a, b, c, d, e, rfl⟩ := five (l := r) (by have := congrArg List.length h; simpa [DC.cells] using this)
  ·
    simp only [DC.cells, List.map_cons, List.map_nil, List.cons.injEq, and_true] at h
    obtain ⟨h1, h2, h3, h4, h5⟩ := h
    obtain rfl := ro1_int h1
    obtain rfl := ro1_int h2
    obtain rfl := ro1_int h3
    exact ⟨d, e, rfl, h4, h5⟩
theorem RowV.fr {H H' : List HObj} {sz : Nat} {v : DV} {rows : List (List DV)} (h : RowV H sz v rows) (f : Fr H H' []) : RowV H' sz v rows := by
  rcases h with h | ⟨id, off, cs, h1, h2, h3⟩
  · exact .inl h
  · exact .inr ⟨id, off, cs, h1, f.get h2 (by simp), h3⟩
theorem RowV.ro1 {H : List HObj} {sz : Nat} {v : DV} {rows : List (List DV)} (h : RowV H sz v rows) : v.ro1 = v := by
  rcases h with rfl | ⟨id, off, cs, rfl, _⟩ <;> rfl
theorem RowV.ro {H : List HObj} {sz : Nat} {v : DV} {rows : List (List DV)} (h : RowV H sz v rows) : v.ro = v := by
  rcases h with rfl | ⟨id, off, cs, rfl, _⟩ <;> rfl
theorem RowV.roA {H : List HObj} {sz : Nat} {v : DV} {rows : List (List DV)} (h : RowV H sz v rows) : v.roA = v := by
  rcases h with rfl | ⟨id, off, cs, rfl, _⟩ <;> rfl
theorem RowV.scalar {H : List HObj} {sz : Nat} {v : DV} {rows : List (List DV)} (h : RowV H sz v rows) : v.scalar = true := by
  rcases h with rfl | ⟨id, off, cs, rfl, _⟩ <;> rfl
theorem RowV.flat {H : List HObj} {sz : Nat} {v : DV} {rows : List (List DV)} (h : RowV H sz v rows) : v.flat = true := by
  rcases h with rfl | ⟨id, off, cs, rfl, _⟩ <;> rfl
theorem RowV.cells {H : List HObj} {sz : Nat} {v : DV} {rows : List (List DV)} (h : RowV H sz v rows) : v.cells = [v] := by
  rcases h with rfl | ⟨id, off, cs, rfl, _⟩ <;> rfl
noncomputable def b32 : Code := (Go.Proofs.Try.f32.body).getD .skip
theorem hb32 : Go.Proofs.Try.f32.body = some b32 := by kernel_rfl
def SSR : Spec := fun H args K => ∃ v rs, args = [v, v] ∧ RowV H 5 v (List.map RD.cells rs) ∧ rs.length < 4611686018427387904 ∧ (∀ r ∈ rs, r.pairs.length < 4611686018427387904) ∧ K H (.bool true)
def MSR (H : List HObj) (v : DV) (n m : Nat) (st : St) : Prop := ∃ i : Nat, i ≤ n ∧ m = n - i ∧ st = mk 81 [(0, v), (1, v), (5, .int .i64 i)] [] H []
set_option maxHeartbeats 4000000 in
theorem rcSR {I : Jd pp} (hI : ∀ w e, I.Ok w e) : RC I 32 SSR := by
  refine rc_of_code (isObj := isO) (Γ := envOf [(39, SSame 2 prD)]) (rs := [4]) mixed hI (envOf_rc (by simpa using rcSameP hI)) Go.Proofs.Try.func32 (by kernel_rfl) hb32 Go.Proofs.Try.results32 Go.Proofs.Try.ntmps32 (by decide) ?_
  rintro H args K ⟨v, rs, rfl, hv, hl, hp, hK⟩
  rcases hv with rfl | ⟨id, off, cs, rfl, hid, hat⟩
  ·
    refine ⟨by simp, rfl, ?_⟩
    unfold b32 Go.Proofs.Try.f32
    simp only [List.append_eq, List.cons_append, List.nil_append, Option.getD_some, argSlots, vro_sl, Nat.zero_add, w_seq, w_region, mk_clean, tS_cons, g_none, hold_app, o_assign, take_const, constDV, mk_put, dropLk, tS_nil, hold_app2, o_move, Nat.reduceLT, move_tmp, movK, Nat.reduceBEq, look_miss, look_hit, lkGet, o_len, rho_tmp, dl28, List.length_map, mk_put?_some, o_bin, nil_tmp, Bool.false_eq_true, b_neq, ne_eq, not_true_eq_false, decide_false, w_cond, cd, w_ret, ret_one, vfla_bool, true_and, false_implies, w_skip, w_block, true_implies, if_false]
    refine w_loop [0, 1, 5] (MSR H (.sl false 5 ((rs.map RD.cells).map .agg)) rs.length) rs.length ?_ ?_
    · exact ⟨0, by omega, by omega, by simp only [mk_forget, List.map_cons, Nat.reduceBEq, look_miss, look_hit, List.map_nil, nc0]; try rfl⟩
    · rintro m st ⟨i, hi, rfl, rfl⟩
      by_cases e : i < rs.length
      · have e1 : (i : Int) < rs.length := by omega
        have e2 : (0 : Int) ≤ i := by omega
        have wi : IntKind.i64.wrap ((i : Int) + 1) = ((i + 1 : Nat) : Int) := by rw [wrap_i64 (by omega) (by omega)]; omega
        have hx : ((rs.map RD.cells).map DV.agg).getD i .undef = .agg rs[i].cells := by rw [getD_map _ _ i (by simpa using e)]; simp
        simp only [w_seq, w_region, mk_clean, tS_cons, g_none, hold_app, o_move, Nat.reduceLT, move_tmp, movK, Nat.reduceBEq, look_miss, look_hit, vroA_int, dropLk, lkGet, o_len, rho_tmp, dl28, List.length_map, mk_put?_some, o_bin, nil_tmp, Bool.false_eq_true, b_lss, e1, decide_true, tS_nil, hold_app2, w_cond, cd, w_skip, w_block, true_implies, Bool.true_eq_false, w_exit, o_assign, take_const, constDV, mk_put, w_ret, ret_one, vfla_bool, true_and, if_true, false_implies, and_true, if_false]
        refine w_draw [61] (.quiet 0 (.quiet 1 (.quiet 2 (.quiet 3 (.quiet 4 (.quiet 5 (.quiet 6 (.quiet 7 (.quiet 8 (.quiet 9 (.quiet 10 (.quiet 11 (.quiet 12 (.quiet 13 (.quiet 14 (.quiet 15 (.quiet 16 (.quiet 17 (.quiet 18 (.quiet 19 (.quiet 20 (.quiet 21 (.quiet 22 (.quiet 23 (.quiet 24 (.quiet 25 (.quiet 26 (.quiet 27 (.quiet 28 (.quiet 29 (.quiet 30 (.quiet 31 (.quiet 32 (.quiet 33 (.quiet 34 (.quiet 35 (.quiet 36 (.quiet 37 (.quiet 38 (.quiet 39 (.quiet 40 (.quiet 41 (.quiet 42 (.quiet 43 (.quiet 44 (.quiet 45 (.quiet 46 (.quiet 47 (.quiet 48 (.quiet 49 (.quiet 50 (.quiet 51 (.quiet 52 (.quiet 53 (.quiet 54 (.quiet 55 (.quiet 56 (.quiet 57 (.quiet 58 (.quiet 59 (.quiet 60 (.acts [(61, [], .quiet 62 (.quiet 63 (.done)))])))))))))))))))))))))))))))))))))))))))))))))))))))))))))))))) (by decide) (by kernel_rfl) ?_
        simp only [mk_clean, rp_quiet, rpQ_zero, g_none, hold_app, q_move, Nat.reduceLT, rho_tmp, Nat.reduceBEq, look_miss, look_hit, vroA_sl, ex_eq, mk_put, dropLk, rpQ_succ, vroA_int, q_indexAddr, ix28, e2, List.length_map, e1, Int.toNat_natCast, hx, RD.cells, vcl_agg, true_and, q_fieldAddr, fv33_0, List.drop_zero, q_load, ld_vptr, la3, vro_int, q_bin, b_neq, ne_eq, not_true_eq_false, decide_false, vroA_bool, g_some, gq_succ, gq_zero, gs1_eq, gs2_ff, mk_setT, fv33_1, List.drop_succ_cons, la4, vro_bool, t_neq Go.Proofs.Try.underlying4, bne_self_eq_false, q_pick, rho_const, constDV, pk, Bool.false_eq_true, if_false, fv33_2, la9, vro_str, s_neq, fv33_3, fv33_4, la31, vro_sl, rp_acts, ra_cons, rpA_succ, rpA_zero, o_fn, args_cons, args_nil, mk_H, env_cons, if_true, dcl_some, List.all_cons, vfla_sl, List.all_nil, Bool.and_self, List.map_cons, List.map_nil, ra_nil, and_true]
        refine appSame (hp _ (List.getElem_mem e)) (hp _ (List.getElem_mem e)) ?_
        simp only [decide_true, hold_app2, mk_called, Pos.isHp, List.filter_nil, mk_put?_some, dropLk, hold_app, rcA_nil, slL_nil, mk_unlink, dropLks, rp_quiet, rpQ_succ, rpQ_zero, g_some, gq_succ, gq_zero, Nat.reduceLT, gs1_eq, Nat.reduceBEq, look_miss, look_hit, gs2_ff, mk_setT, q_un, rho_tmp, u_not, Bool.not_true, ex_eq, mk_put, g_none, q_pick, rho_const, constDV, pk, Bool.false_eq_true, vroA_bool, if_false, rp_done, w_cond, cd_f, w_skip, w_region, mk_clean, tS_cons, o_move, move_tmp, movK, vroA_int, o_bin, nil_int, b_add, wi, o_assign, take_tmp, takK, tS_nil, mk_forget, List.map_cons, List.map_nil, true_and]
        exact ⟨_, by omega, i + 1, by omega, rfl, rfl⟩
      · have e0 : i = rs.length := by omega
        subst e0
        simp only [w_seq, w_region, mk_clean, tS_cons, g_none, hold_app, o_move, Nat.reduceLT, move_tmp, movK, Nat.reduceBEq, look_miss, look_hit, vroA_int, dropLk, lkGet, o_len, rho_tmp, dl28, List.length_map, mk_put?_some, o_bin, nil_tmp, Bool.false_eq_true, b_lss, Int.lt_irrefl, decide_false, tS_nil, hold_app2, w_cond, cd, w_skip, w_block, false_implies, w_exit, o_assign, take_const, constDV, mk_put, w_ret, ret_one, vfla_bool, true_and, if_true, true_implies, if_false]
        exact hK
  ·
    refine ⟨by simp, rfl, ?_⟩
    unfold b32 Go.Proofs.Try.f32
    simp only [List.append_eq, List.cons_append, List.nil_append, Option.getD_some, argSlots, List.length_map, vro_hsl, Nat.zero_add, w_seq, w_region, mk_clean, tS_cons, g_none, hold_app, o_assign, take_const, constDV, mk_put, dropLk, tS_nil, hold_app2, o_move, Nat.reduceLT, move_tmp, movK, Nat.reduceBEq, look_miss, look_hit, vroA_hsl, o_len, rho_tmp, dlh28, mk_put?_some, o_bin, nil_tmp, Bool.false_eq_true, b_neq, ne_eq, not_true_eq_false, decide_false, w_cond, cd, w_ret, ret_one, vfla_bool, true_and, false_implies, w_skip, w_block, true_implies, if_false]
    refine w_loop [0, 1, 5] (MSR H (.hsl id 5 off rs.length) rs.length) rs.length ?_ ?_
    · exact ⟨0, by omega, by omega, by simp only [mk_forget, List.map_cons, Nat.reduceBEq, look_miss, look_hit, List.map_nil, nc0]; try rfl⟩
    · rintro m st ⟨i, hi, rfl, rfl⟩
      by_cases e : i < rs.length
      · have e1 : (i : Int) < rs.length := by omega
        have e2 : (0 : Int) ≤ i := by omega
        have wi : IntKind.i64.wrap ((i : Int) + 1) = ((i + 1 : Nat) : Int) := by rw [wrap_i64 (by omega) (by omega)]; omega
        obtain ⟨r', rest, hx, hro⟩ := hat i rs[i].cells (by simp [e])
        obtain ⟨o, rfl⟩ := rd_ro hro
        have hx : cs.drop (off + i * 5) = .int .i64 rs[i].lv :: .bool rs[i].scan :: .str rs[i].fr :: .str rs[i].to :: .sl o 2 (rs[i].pairs.map prD) :: rest := hx
        have hx1 : cs.drop (off + i * 5 + 1) = .bool rs[i].scan :: .str rs[i].fr :: .str rs[i].to :: .sl o 2 (rs[i].pairs.map prD) :: rest := by rw [← List.drop_drop, hx]; rfl
        have hx2 : cs.drop (off + i * 5 + 2) = .str rs[i].fr :: .str rs[i].to :: .sl o 2 (rs[i].pairs.map prD) :: rest := by rw [← List.drop_drop, hx]; rfl
        have hx3 : cs.drop (off + i * 5 + 3) = .str rs[i].to :: .sl o 2 (rs[i].pairs.map prD) :: rest := by rw [← List.drop_drop, hx]; rfl
        have hx4 : cs.drop (off + i * 5 + 4) = .sl o 2 (rs[i].pairs.map prD) :: rest := by rw [← List.drop_drop, hx]; rfl
        simp only [w_seq, w_region, mk_clean, tS_cons, g_none, hold_app, o_move, Nat.reduceLT, move_tmp, movK, Nat.reduceBEq, look_miss, look_hit, vroA_int, dropLk, vroA_hsl, o_len, rho_tmp, dlh28, mk_put?_some, o_bin, nil_tmp, Bool.false_eq_true, b_lss, e1, decide_true, tS_nil, hold_app2, w_cond, cd, w_skip, w_block, true_implies, Bool.true_eq_false, w_exit, o_assign, take_const, constDV, mk_put, w_ret, ret_one, vfla_bool, true_and, if_true, false_implies, and_true, if_false]
        refine w_draw [61] (.quiet 0 (.quiet 1 (.quiet 2 (.quiet 3 (.quiet 4 (.quiet 5 (.quiet 6 (.quiet 7 (.quiet 8 (.quiet 9 (.quiet 10 (.quiet 11 (.quiet 12 (.quiet 13 (.quiet 14 (.quiet 15 (.quiet 16 (.quiet 17 (.quiet 18 (.quiet 19 (.quiet 20 (.quiet 21 (.quiet 22 (.quiet 23 (.quiet 24 (.quiet 25 (.quiet 26 (.quiet 27 (.quiet 28 (.quiet 29 (.quiet 30 (.quiet 31 (.quiet 32 (.quiet 33 (.quiet 34 (.quiet 35 (.quiet 36 (.quiet 37 (.quiet 38 (.quiet 39 (.quiet 40 (.quiet 41 (.quiet 42 (.quiet 43 (.quiet 44 (.quiet 45 (.quiet 46 (.quiet 47 (.quiet 48 (.quiet 49 (.quiet 50 (.quiet 51 (.quiet 52 (.quiet 53 (.quiet 54 (.quiet 55 (.quiet 56 (.quiet 57 (.quiet 58 (.quiet 59 (.quiet 60 (.acts [(61, [], .quiet 62 (.quiet 63 (.done)))])))))))))))))))))))))))))))))))))))))))))))))))))))))))))))))) (by decide) (by kernel_rfl) ?_
        simp only [mk_clean, rp_quiet, rpQ_zero, g_none, hold_app, q_move, Nat.reduceLT, rho_tmp, Nat.reduceBEq, look_miss, look_hit, vroA_hsl, ex_eq, mk_put, dropLk, rpQ_succ, vroA_int, q_indexAddr, ixh28, e2, e1, Int.toNat_natCast, true_and, q_fieldAddr, fp33_0, Nat.add_zero, q_load, ld_h, hid, dlh_some, hx, la3, vro_int, q_bin, b_neq, ne_eq, not_true_eq_false, decide_false, vroA_bool, g_some, gq_succ, gq_zero, gs1_eq, gs2_ff, mk_setT, fp33_1, hx1, la4, vro_bool, t_neq Go.Proofs.Try.underlying4, bne_self_eq_false, q_pick, rho_const, constDV, pk, Bool.false_eq_true, if_false, fp33_2, hx2, la9, vro_str, s_neq, fp33_3, hx3, fp33_4, hx4, la31, vro_sl, rp_acts, ra_cons, rpA_succ, rpA_zero, o_fn, args_cons, args_nil, mk_H, env_cons, if_true, dcl_some, List.all_cons, vfla_sl, List.all_nil, Bool.and_self, List.map_cons, List.map_nil, ra_nil, and_true]
        refine appSame (hp _ (List.getElem_mem e)) (hp _ (List.getElem_mem e)) ?_
        simp only [decide_true, hold_app2, mk_called, Pos.isHp, List.filter_nil, mk_put?_some, dropLk, hold_app, rcA_nil, slL_nil, mk_unlink, dropLks, rp_quiet, rpQ_succ, rpQ_zero, g_some, gq_succ, gq_zero, Nat.reduceLT, gs1_eq, Nat.reduceBEq, look_miss, look_hit, gs2_ff, mk_setT, q_un, rho_tmp, u_not, Bool.not_true, ex_eq, mk_put, g_none, q_pick, rho_const, constDV, pk, Bool.false_eq_true, vroA_bool, if_false, rp_done, w_cond, cd_f, w_skip, w_region, mk_clean, tS_cons, o_move, move_tmp, movK, vroA_int, o_bin, nil_int, b_add, wi, o_assign, take_tmp, takK, tS_nil, mk_forget, List.map_cons, List.map_nil, true_and]
        exact ⟨_, by omega, i + 1, by omega, rfl, rfl⟩
      · have e0 : i = rs.length := by omega
        subst e0
        simp only [w_seq, w_region, mk_clean, tS_cons, g_none, hold_app, o_move, Nat.reduceLT, move_tmp, movK, Nat.reduceBEq, look_miss, look_hit, vroA_int, dropLk, vroA_hsl, o_len, rho_tmp, dlh28, mk_put?_some, o_bin, nil_tmp, Bool.false_eq_true, b_lss, Int.lt_irrefl, decide_false, tS_nil, hold_app2, w_cond, cd, w_skip, w_block, false_implies, w_exit, o_assign, take_const, constDV, mk_put, w_ret, ret_one, vfla_bool, true_and, if_true, true_implies, if_false]
        exact hK
end Go.Ab.Or
