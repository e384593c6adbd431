/- A part of the proofs that a law function returns true at every input; it has no condition of its own. -/
import Derived.Test.YtcljbddnnnbihaaShD
set_option linter.unusedSimpArgs false
set_option linter.unusedVariables false
/- ShF: slices.Clone, New, Copy. -/
namespace Go.Ab.Sh
open Go Go.Conc Go.RowKit Go.Ab
set_option maxRecDepth 10000
noncomputable def b44 : Code := (Go.Proofs.Try.f44.body).getD .skip
theorem hb44 : Go.Proofs.Try.f44.body = some b44 := by kernel_rfl
/-- slices.Clone at acts. -/
def S44 : Spec := fun H args K => ∃ own acts, args = [.sl own 3 (List.map actD acts)] ∧ acts.length < 100000 ∧ K H (.sl true 3 (List.map actD acts))
theorem app44 {H : List HObj} {K : List HObj → DV → Prop} {own : Bool} (acts : List Act) (h1 : acts.length < 100000) (h : K H (.sl true 3 (List.map actD acts))) : app S44 H [.sl own 3 (List.map actD acts)] K := ⟨own, acts, rfl, h1, h⟩
theorem rc44 {I : Jd pp} (hI : ∀ w e, I.Ok w e) : RC I 44 S44 := by
  refine rc_of_code (isObj := isO) (Γ := envOf []) (rs := [2]) mixed hI (envOf_rc (by simp)) Go.Proofs.Try.func44 (by kernel_rfl) hb44 Go.Proofs.Try.results44 Go.Proofs.Try.ntmps44 (by decide) ?_
  rintro H args K ⟨own, acts, rfl, h1, hK⟩
  refine ⟨by simp, rfl, ?_⟩
  unfold b44 Go.Proofs.Try.f44
  cases own <;> simp only [Option.getD_some, argSlots, DV.ro, w_seq, w_region, mk_clean, tS_cons, g_none, hold_app, o_assign, take_const, constDV, Proofs.Try.underlying55, cn65, mk_put, dropLk, tS_nil, hold_app2, o_move, Nat.reduceLT, move_tmp, movK, Nat.reduceBEq, look_miss, look_hit, lkGet, o_bin, nil_sl, rho_tmp, n_eql Go.Proofs.Try.underlying55, mk_put?_some, w_cond, cd, Bool.false_eq_true, w_ret, ret_one, DV.flat, true_and, false_implies, w_skip, bz55, o_append, ap55, take_tmp, takK, apd_own, List.length_nil, List.length_map, Nat.zero_add, List.nil_append, true_implies, List.map_eq_nil_iff, Bool.true_eq_false, and_true, rho_const, if_true]
  all_goals refine ⟨⟨by omega, by omega, ?_⟩, ?_⟩
  all_goals first | (rintro rfl; simpa using hK) | exact hK
theorem app22 {H : List HObj} {K : List HObj → DV → Prop} {id k n : Nat} {kept now : Files} {acts : List Act} {room v : Int} (h1 : ShelfAt H id k n kept now acts room) (h : K (H.set id (.cells (shelfC k n acts (min (max v 0) 1000000)))) (.tup [])) : app S22 H [.ptr id 0, .int .i64 v] K := ⟨id, k, n, kept, now, acts, room, v, rfl, h1, h⟩
noncomputable def b10 : Code := (Go.Proofs.Try.f10.body).getD .skip
theorem hb10 : Go.Proofs.Try.f10.body = some b10 := by kernel_rfl
/-- New. -/
def S10 : Spec := fun H args K => ∃ v, args = [.int .i64 v] ∧ K (H ++ [HObj.map [], HObj.map [], HObj.cells (shelfC H.length (H.length + 1) [] (min (max v 0) 1000000))]) (.ptr (H.length + 2) 0)
theorem rc10 {I : Jd pp} (hI : ∀ w e, I.Ok w e) : RC I 10 S10 := by
  refine rc_of_code (isObj := isO) (Γ := envOf [(22, S22)]) (rs := [2]) mixed hI (envOf_rc (by simpa using rc22 hI)) Go.Proofs.Try.func10 (by kernel_rfl) hb10 Go.Proofs.Try.results10 Go.Proofs.Try.ntmps10 (by decide) ?_
  rintro H args K ⟨v, rfl, hK⟩
  refine ⟨by simp, rfl, ?_⟩
  unfold b10 Go.Proofs.Try.f10
  simp only [Option.getD_some, argSlots, DV.ro, w_seq, w_region, mk_clean, tS_cons, g_none, hold_app, o_assign, take_const, constDV, mk_put, dropLk, tS_nil, hold_app2, o_makeMap, mk_newMap, List.length_append, List.length_cons, List.length_nil, Nat.zero_add, List.append_assoc, List.cons_append, List.nil_append, bd57, bd57_0, Nat.reduceLT, take_tmp, takK, Nat.reduceBEq, look_miss, look_hit, DV.roA, bdk_eq, DV.cells, Nat.reduceAdd, Nat.reduceLeDiff, List.all_cons, DV.scalar, List.all_nil, Bool.and_self, putAt_eq, List.take_zero, List.drop_succ_cons, List.drop_zero, bd57_1, List.take_succ_cons, bd_nil, o_box, List.map_cons, DV.ro1, List.map_nil, no57, o_move, move_tmp, movK, o_fn, args_cons, rho_tmp, args_nil, mk_H, env_cons, if_true, dcl_some, DV.flat, true_and]
  have hs : ShelfAt (H ++ [HObj.map [], HObj.map [], HObj.cells (shelfC H.length (H.length + 1) [] 0)]) (H.length + 2) H.length (H.length + 1) [] [] [] 0 := ⟨by simp, by simp [enc], by simp [enc], by omega⟩
  refine app22 hs ?_
  simp only [hold_app2, mk_called, Pos.isHp, List.filter_nil, mk_put?_some, dropLk, hold_app, tS_nil, w_seq, w_region, mk_clean, tS_cons, g_none, o_move, Nat.reduceLT, move_tmp, movK, Nat.reduceBEq, look_miss, look_hit, DV.roA, DV.ro, o_assign, take_tmp, takK, mk_put, w_ret, ret_one, DV.flat, true_and]
  simpa [List.set_append] using hK
noncomputable def b26 : Code := (Go.Proofs.Try.f26.body).getD .skip
theorem hb26 : Go.Proofs.Try.f26.body = some b26 := by kernel_rfl
def copyH (H : List HObj) (kept now : Files) (acts : List Act) (room : Int) : List HObj := H ++ [HObj.map (enc kept), HObj.map (enc now), HObj.cells (shelfC H.length (H.length + 1) acts room)]
/-- Copy. -/
def S26 : Spec := fun H args K => ∃ id k n kept now acts room, args = [.ptr id 0] ∧ ShelfAt H id k n kept now acts room ∧ acts.length < 100000 ∧ K (copyH H kept now acts room) (.ptr (H.length + 2) 0)
theorem rc26 {I : Jd pp} (hI : ∀ w e, I.Ok w e) (h41 : RC I 41 S41) : RC I 26 S26 := by
  refine rc_of_code (isObj := isO) (Γ := envOf [(41, S41), (44, S44)]) (rs := [2]) mixed hI (envOf_rc (by simpa using ⟨h41, rc44 hI⟩)) Go.Proofs.Try.func26 (by kernel_rfl) hb26 Go.Proofs.Try.results26 Go.Proofs.Try.ntmps26 (by decide) ?_
  rintro H args K ⟨id, k, n, kept, now, acts, room, rfl, hs, h5, hK⟩
  have h1 := hs.1
  have h2 := hs.2.1
  have h3 := hs.2.2.1
  have hid : id < H.length := (List.getElem?_eq_some_iff.1 h1).1
  have hn : n < H.length := (List.getElem?_eq_some_iff.1 h3).1
  have h1' : ∀ l, (H ++ l)[id]? = some (.cells (shelfC k n acts room)) := fun l => by rw [List.getElem?_append_left hid]; exact h1
  have h3' : ∀ l, (H ++ l)[n]? = some (.map (enc now)) := fun l => by rw [List.getElem?_append_left hn]; exact h3
  refine ⟨by simp, rfl, ?_⟩
  unfold b26 Go.Proofs.Try.f26
  simp only [Option.getD_some, argSlots, DV.ro, w_seq, w_region, mk_clean, tS_cons, g_none, hold_app, o_assign, take_const, constDV, mk_put, dropLk, tS_nil, hold_app2]
  refine w_draw [4, 9, 14, 19, 20, 21] (.quiet 0 (.quiet 1 (.quiet 2 (.quiet 3 (.quiet 5 (.quiet 6 (.quiet 7 (.quiet 8 (.quiet 10 (.quiet 11 (.quiet 12 (.quiet 13 (.quiet 15 (.quiet 16 (.quiet 17 (.quiet 18 (.acts [(4, [18, 17, 16, 15, 13, 12, 11, 10, 8, 7, 6, 5], .acts [(9, [18, 17, 16, 15, 13, 12, 11, 10], .acts [(14, [18, 17, 16, 15], .acts [(19, [], .acts [(20, [], .acts [(21, [], .done)])])])])])]))))))))))))))))) (by decide) (by kernel_rfl) ?_
  simp only [mk_clean, rp_quiet, rpQ_zero, g_none, hold_app, q_move, DV.roA, Nat.reduceLT, rho_tmp, Nat.reduceBEq, look_miss, look_hit, DV.ro, ex_eq, mk_put, dropLk, rpQ_succ, q_nilCheck, dnil, q_fieldAddr, fp57_0, Nat.add_zero, q_load, ld_h, h1, shelfC, dlh_some, List.drop_zero, la54, fp57_1, Nat.zero_add, List.drop_succ_cons, fp57_2, la55, fp57_3, la3, rp_acts, ra_cons, rpA_succ, rpA_zero, o_fn, args_cons, args_nil, mk_H, env_cons, Nat.reduceEqDiff, if_false, if_true, dcl_some, List.all_cons, DV.flat, List.all_nil, Bool.and_self, List.map_cons, List.map_nil, true_and, ra_nil, and_true]
  refine app41 h2 ?_
  simp only [hold_app2, mk_called, Pos.isHp, List.filter_nil, mk_put?_some, dropLk, hold_app, rcA_cons, rcW_succ, rcW_zero, g_none, Nat.reduceLT, mk_t, Nat.reduceBEq, look_miss, look_hit, q_load, rho_tmp, ld_h, h1', shelfC, dlh_some, List.drop_succ_cons, List.drop_zero, la3, DV.ro, q_fieldAddr, fp57_3, Nat.zero_add, q_nilCheck, dnil, q_move, DV.roA, la55, fp57_2, la54, fp57_1, rcA_nil, and_true, slL_cons, slW_succ, slW_zero, slL_nil, mk_unlink, dropLks, rp_acts, ra_cons, rpA_succ, rpA_zero, o_fn, args_cons, args_nil, mk_H, env_cons, Nat.reduceEqDiff, if_false, if_true, dcl_some, List.all_cons, DV.flat, List.all_nil, Bool.and_self, List.map_cons, List.map_nil, true_and, ra_nil]
  refine app41 (h3' _) ?_
  simp only [List.append_assoc, List.cons_append, List.nil_append, List.length_append, List.length_cons, List.length_nil, Nat.zero_add, hold_app2, mk_called, Pos.isHp, List.filter_nil, mk_put?_some, dropLk, hold_app, rcA_cons, rcW_succ, rcW_zero, g_none, Nat.reduceLT, mk_t, Nat.reduceBEq, look_miss, look_hit, q_load, rho_tmp, ld_h, h1', shelfC, dlh_some, List.drop_succ_cons, List.drop_zero, la3, DV.ro, q_fieldAddr, fp57_3, q_nilCheck, dnil, q_move, DV.roA, la55, fp57_2, rcA_nil, and_true, slL_cons, slW_succ, slW_zero, slL_nil, mk_unlink, dropLks, rp_acts, ra_cons, rpA_succ, rpA_zero, o_fn, args_cons, args_nil, mk_H, env_cons, Nat.reduceEqDiff, if_true, if_false, dcl_some, List.all_cons, DV.flat, List.all_nil, Bool.and_self, List.map_cons, List.map_nil, true_and, ra_nil]
  refine app44 acts h5 ?_
  simp only [hold_app2, mk_called, Pos.isHp, List.filter_nil, mk_put?_some, dropLk, hold_app, rcA_cons, rcW_succ, rcW_zero, g_none, Nat.reduceLT, mk_t, Nat.reduceBEq, look_miss, look_hit, q_load, rho_tmp, ld_h, h1', shelfC, dlh_some, List.drop_succ_cons, List.drop_zero, la3, DV.ro, q_fieldAddr, fp57_3, Nat.zero_add, q_nilCheck, dnil, q_move, DV.roA, rcA_nil, and_true, slL_cons, slW_succ, slW_zero, slL_nil, mk_unlink, dropLks, rp_acts, ra_cons, rpA_succ, rpA_zero, bd57, mk_put, bd57_0, take_tmp, takK, bdk_eq, DV.cells, List.length_cons, List.length_nil, Nat.reduceAdd, Nat.reduceLeDiff, List.all_cons, DV.scalar, List.all_nil, Bool.and_self, putAt_eq, List.take_zero, List.nil_append, List.cons_append, bd57_1, List.take_succ_cons, bd57_2, bd57_3, List.drop_nil, List.append_nil, bd_nil, o_box, List.map_cons, DV.ro1, List.map_nil, no57, List.length_append, List.append_assoc, o_assign, rp_done, w_ret, ret_one, DV.flat, true_and, ra_nil]
  simpa [copyH, shelfC] using hK
end Go.Ab.Sh
