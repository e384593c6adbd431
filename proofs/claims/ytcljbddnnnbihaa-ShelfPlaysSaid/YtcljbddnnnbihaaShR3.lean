/- A part of the proofs that a law function returns true at every input; it has no condition of its own. -/
import Derived.Test.YtcljbddnnnbihaaShR2
set_option linter.unusedSimpArgs false
set_option linter.unusedVariables false
/- ShR3: The reference shelf: done, do. -/
namespace Go.Ab.Sh
open Go Go.Conc Go.RowKit Go.Ab
set_option maxRecDepth 10000
def atD (l : Files) (i : Int) : Str := ((l[i.toNat]?).map (·.2)).getD []
def rdoneF (l : Files) (a : Act) : Files :=
  if a.kind = 1 then withF l (a.name, a.b)
  else if a.kind = 2 then withF l (a.name, atD l (findI l a.name) ++ a.b)
  else if a.kind = 3 then (if a.name = a.b then l else withF (withoutF l a.name) (a.b, atD l (findI l a.name)))
  else withoutF l a.name
def rown (a : Act) : Bool := if a.kind = 3 then !decide (a.name = a.b) else true
noncomputable def b43 : Code := (Go.Proofs.Try.f43.body).getD .skip
theorem hb43 : Go.Proofs.Try.f43.body = some b43 := by kernel_rfl
/-- ref's done. -/
def S43 : Spec := fun H args K => ∃ own l a, args = [.sl own 2 (List.map fileD l), actD a] ∧ l.length < 100000 ∧ ((a.kind = 2 ∨ a.kind = 3) → 0 ≤ findI l a.name) ∧ (atD l (findI l a.name)).length + a.b.length ≤ 9223372036854775807 ∧
  K H (.sl (rown a) 2 (List.map fileD (rdoneF l a)))
theorem findI_lt (s : Str) : ∀ l : Files, findI l s < l.length ∧ -1 ≤ findI l s
  | [] => by simp [findI]
  | (x, v) :: r => by
    have := findI_lt s r
    simp only [findI, List.length_cons]
    split
    · omega
    · split <;> omega
theorem fileD_at' {l : Files} {i : Int} (h0 : 0 ≤ i) (h : i < l.length) : (l.map fileD).getD i.toNat .undef = .agg [.str ((l[i.toNat]?).map (·.1) |>.getD []), .str (atD l i)] := by
  have hl : i.toNat < l.length := by omega
  simp [List.getD, hl, fileD, atD]
theorem rc43 {I : Jd pp} (hI : ∀ w e, I.Ok w e) : RC I 43 S43 := by
  refine rc_of_code (isObj := isO) (Γ := envOf [(38, S38), (50, S50), (51, S51)]) (rs := [4]) mixed hI (envOf_rc (by simpa using ⟨rc38 hI, rc50 hI, rc51 hI⟩)) Go.Proofs.Try.func43 (by kernel_rfl) hb43 Go.Proofs.Try.results43 Go.Proofs.Try.ntmps43 (by decide) ?_
  rintro H args K ⟨own, l, a, rfl, hlen, hfi, hcat, hK⟩
  have hlt := findI_lt a.name l
  refine ⟨by simp, rfl, ?_⟩
  unfold b43 Go.Proofs.Try.f43
  simp only [Option.getD_some, argSlots, DV.ro, Nat.zero_add, actD, List.map_cons, DV.ro1, List.map_nil, w_seq, w_region, mk_clean, tS_cons, g_none, hold_app, o_box, DV.cells, Nat.reduceLT, take_tmp, takK, Nat.reduceBEq, look_miss, look_hit, List.all_cons, DV.scalar, List.all_nil, Bool.and_self, nv69, bgen_eq, bget_nil, bset_nil, dropLk, o_assign, take_const, constDV, Proofs.Try.underlying58, cn75, mk_put, tS_nil, hold_app2, o_move, move_tmp, movK, lkGet, o_fieldAddr, rho_tmp, fl69_1, mk_put?_some, o_load, ld_b, bget_cons, if_true, dlb_some, List.drop_succ_cons, List.drop_zero, la9, lo_str, o_fn, args_cons, args_nil, mk_H, env_cons, Nat.reduceEqDiff, if_false, dcl_some, DV.flat, true_and]
  refine app38 (by omega) ?_
  simp only [hold_app2, mk_called, Pos.isHp, List.filter_nil, mk_put?_some, dropLk, hold_app, tS_cons, g_none, o_assign, Nat.reduceLT, take_tmp, takK, look_hit, DV.roA, DV.ro, mk_put, tS_nil, w_seq, w_block, w_region, mk_clean, o_fieldAddr, rho_tmp, Nat.reduceBEq, look_miss, fl69_0, Nat.add_zero, o_load, ld_b, bget_cons, bget_nil, if_true, dlb_some, List.drop_zero, la3, lo_int, o_bin, nil_int, Bool.false_eq_true, rho_const, constDV, b_eql, w_cond, cd, decide_eq_true_eq, o_move, move_tmp, movK, lkGet, fl69_1, Nat.zero_add, List.drop_succ_cons, la9, lo_str, fl69_2, bd75, bd75_0, bdk_eq, DV.cells, List.length_cons, List.length_nil, Nat.reduceAdd, Nat.reduceLeDiff, List.all_cons, DV.scalar, List.all_nil, Bool.and_self, putAt_eq, List.take_zero, List.nil_append, List.cons_append, bd75_1, List.take_succ_cons, List.drop_nil, List.append_nil, bd_nil, o_fn, args_cons, args_nil, mk_H, env_cons, Nat.reduceEqDiff, if_false, dcl_some, DV.flat, List.map_cons, DV.ro1, List.map_nil, true_and, decide_eq_false_iff_not, nil_tmp, s_eql, w_ret, ret_one, w_skip]
  refine ⟨fun e1 => ?_, fun e1 => ⟨fun e2 => ?_, fun e2 => ⟨fun e3 => ?_, fun e3 => ?_⟩⟩⟩
  · refine app50 (a.name, a.b) hlen ?_
    simp only [hold_app2, mk_called, Pos.isHp, List.filter_nil, mk_put?_some, dropLk, hold_app, tS_cons, g_none, o_assign, Nat.reduceLT, take_tmp, takK, look_hit, mk_put, tS_nil, w_ret, ret_one, DV.flat, true_and]
    simpa [rdoneF, rown, e1] using hK
  · have h0 := hfi (.inl e2)
    refine w_draw [11, 12, 13] (.quiet 0 (.quiet 1 (.quiet 2 (.quiet 3 (.quiet 4 (.quiet 5 (.quiet 6 (.quiet 7 (.quiet 8 (.quiet 9 (.quiet 10 (.acts [(11, [0], .acts [(12, [], .acts [(13, [], .done)])])])))))))))))) (by decide) (by kernel_rfl) ?_
    simp only [mk_clean, rp_quiet, rpQ_zero, g_none, hold_app, q_move, DV.roA, Nat.reduceLT, rho_tmp, Nat.reduceBEq, look_miss, look_hit, DV.ro, ex_eq, mk_put, dropLk, rpQ_succ, q_fieldAddr, fl69_1, Nat.zero_add, q_load, ld_b, bget_cons, bget_nil, if_true, dlb_some, List.drop_succ_cons, List.drop_zero, la9, true_and, q_indexAddr, ix58, List.length_map, DV.cells, fileD_at' h0 hlt.1, ex_and, fv75_1, ld_vptr, fl69_2, q_bin, s_add, rp_acts, ra_cons, rpA_succ, rpA_zero, bd75, bd75_0, take_tmp, takK, bdk_eq, List.length_cons, List.length_nil, Nat.reduceAdd, Nat.reduceLeDiff, List.all_cons, DV.scalar, List.all_nil, Bool.and_self, putAt_eq, List.take_zero, List.nil_append, List.cons_append, hold_app2, bd75_1, List.take_succ_cons, List.drop_nil, List.append_nil, bd_nil, rcA_cons, rcW_zero, mk_t, rcA_nil, and_true, slL_cons, slW_zero, slL_nil, mk_unlink, dropLks, o_fn, args_cons, args_nil, mk_H, env_cons, Nat.reduceEqDiff, if_false, dcl_some, DV.flat, List.map_cons, DV.ro1, List.map_nil, ra_nil]
    refine ⟨h0, hlt.1, hcat, ?_⟩
    refine app50 (a.name, atD l (findI l a.name) ++ a.b) hlen ?_
    simp only [hold_app2, mk_called, Pos.isHp, List.filter_nil, mk_put?_some, dropLk, hold_app, rcA_nil, slL_nil, mk_unlink, dropLks, rp_acts, ra_cons, rpA_succ, rpA_zero, g_none, o_assign, Nat.reduceLT, take_tmp, takK, look_hit, mk_put, rp_done, w_ret, ret_one, DV.flat, true_and, ra_nil, and_true]
    simpa [rdoneF, rown, e1, e2] using hK
  · refine ⟨fun e4 => by simpa [rdoneF, rown, e3, e4] using hK, fun e4 => ?_⟩
    have h0 := hfi (.inr e3)
    refine w_draw [3, 12, 13] (.quiet 0 (.quiet 1 (.quiet 2 (.quiet 4 (.quiet 5 (.quiet 6 (.quiet 7 (.quiet 8 (.quiet 9 (.quiet 10 (.quiet 11 (.acts [(3, [11, 10, 9, 8, 7, 6, 5, 4], .acts [(12, [], .acts [(13, [], .done)])])])))))))))))) (by decide) (by kernel_rfl) ?_
    simp only [mk_clean, rp_quiet, rpQ_zero, g_none, hold_app, q_move, DV.roA, Nat.reduceLT, rho_tmp, Nat.reduceBEq, look_miss, look_hit, DV.ro, ex_eq, mk_put, dropLk, rpQ_succ, q_fieldAddr, fl69_1, Nat.zero_add, q_load, ld_b, bget_cons, bget_nil, if_true, dlb_some, List.drop_succ_cons, List.drop_zero, la9, true_and, fl69_2, q_indexAddr, ix58, List.length_map, DV.cells, fileD_at' h0 hlt.1, ex_and, fv75_1, ld_vptr, bq75, List.map_cons, DV.ro1, List.map_nil, bq75_0, bqk, DV.flat, List.length_cons, List.length_nil, Nat.reduceAdd, Nat.reduceLeDiff, List.all_cons, DV.scalar, List.all_nil, Bool.and_self, putAt_eq, List.take_zero, List.nil_append, List.cons_append, bq75_1, List.take_succ_cons, List.drop_nil, List.append_nil, bq_nil, rp_acts, ra_cons, rpA_succ, rpA_zero, o_fn, args_cons, args_nil, mk_H, env_cons, Nat.reduceEqDiff, if_false, dcl_some, ra_nil, and_true]
    refine ⟨h0, hlt.1, ?_⟩
    refine app51 hlen ?_
    simp only [hold_app2, mk_called, Pos.isHp, List.filter_nil, mk_put?_some, dropLk, hold_app, rcA_cons, rcW_succ, rcW_zero, g_none, Nat.reduceLT, mk_t, Nat.reduceBEq, look_miss, look_hit, bq75, List.map_cons, DV.ro1, List.map_nil, bq75_0, bqk, DV.flat, rho_tmp, DV.cells, DV.ro, List.length_cons, List.length_nil, Nat.zero_add, Nat.reduceAdd, Nat.reduceLeDiff, List.all_cons, DV.scalar, List.all_nil, Bool.and_self, putAt_eq, List.take_zero, List.nil_append, List.drop_succ_cons, List.drop_zero, List.cons_append, bq75_1, List.take_succ_cons, List.drop_nil, List.append_nil, bq_nil, and_true, q_load, ld_vptr, la9, q_fieldAddr, fv75_1, q_indexAddr, ix58, List.length_map, fileD_at' h0 hlt.1, q_move, DV.roA, ld_b, bget_cons, bget_nil, if_true, dlb_some, fl69_2, rcA_nil, true_and, slL_cons, slW_succ, slW_zero, slL_nil, mk_unlink, dropLks, rp_acts, ra_cons, rpA_succ, rpA_zero, o_fn, args_cons, args_nil, mk_H, env_cons, Nat.reduceEqDiff, if_false, dcl_some, ra_nil]
    have hwl : (withoutF l a.name).length < 100000 := Nat.lt_of_le_of_lt (withoutF_len l a.name) hlen
    refine ⟨⟨h0, hlt.1⟩, app50 (a.b, atD l (findI l a.name)) hwl ?_⟩
    simp only [hold_app2, mk_called, Pos.isHp, List.filter_nil, mk_put?_some, dropLk, hold_app, rcA_nil, slL_nil, mk_unlink, dropLks, rp_acts, ra_cons, rpA_succ, rpA_zero, g_none, o_assign, Nat.reduceLT, take_tmp, takK, look_hit, mk_put, rp_done, w_ret, ret_one, DV.flat, true_and, ra_nil, and_true]
    simpa [rdoneF, rown, e3, e4] using hK
  · refine app51 hlen ?_
    simp only [hold_app2, mk_called, Pos.isHp, List.filter_nil, mk_put?_some, dropLk, hold_app, tS_cons, g_none, o_assign, Nat.reduceLT, take_tmp, takK, look_hit, mk_put, tS_nil, w_ret, ret_one, DV.flat, true_and]
    simpa [rdoneF, rown, e1, e2, e3] using hK
end Go.Ab.Sh
