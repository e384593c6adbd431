/- A part of the proofs that a law function returns true at every input; it has no condition of its own. -/
import Derived.Test.YtcljbddnnnbihaaShR6
set_option linter.unusedSimpArgs false
set_option linter.unusedVariables false
/- ShR7: The reference shelf: Get, Room, Keep, New. -/
namespace Go.Ab.Sh
open Go Go.Conc Go.RowKit Go.Ab
set_option maxRecDepth 10000
noncomputable def b28 : Code := (Go.Proofs.Try.f28.body).getD .skip
theorem hb28 : Go.Proofs.Try.f28.body = some b28 := by kernel_rfl
/-- ref's Get. -/
def S28 : Spec := fun H args K => ∃ id l kept acts most nm, args = [.ptr id 0, .str nm] ∧ RefAt H id l kept acts most ∧ l.length < 100000 ∧
  K H (.tup [.str (if findI l nm < 0 then [] else atD l (findI l nm)), .int .i64 (if findI l nm < 0 then 14 else 0)])
theorem rc28 {I : Jd pp} (hI : ∀ w e, I.Ok w e) : RC I 28 S28 := by
  refine rc_of_code (isObj := isO) (Γ := envOf [(38, S38)]) (rs := [4, 5]) mixed hI (envOf_rc (by simpa using rc38 hI)) Go.Proofs.Try.func28 (by kernel_rfl) hb28 Go.Proofs.Try.results28 Go.Proofs.Try.ntmps28 (by decide) ?_
  rintro H args K ⟨id, l, kept, acts, most, nm, rfl, hs, h5, hK⟩
  have h1 : H[id]? = some (.cells (refC l kept acts most)) := hs
  have hlt := findI_lt nm l
  refine ⟨by simp, rfl, ?_⟩
  unfold b28 Go.Proofs.Try.f28
  simp only [Option.getD_some, argSlots, DV.ro, Nat.zero_add, w_seq, w_region, mk_clean, tS_cons, g_none, hold_app, o_assign, take_const, constDV, mk_put, dropLk, tS_nil, hold_app2, o_move, Nat.reduceLT, move_tmp, movK, Nat.reduceBEq, look_miss, look_hit, DV.roA, o_nilCheck, dnil, rho_tmp, mk_put?_some, o_fieldAddr, fp61_0, Nat.add_zero, o_load, ld_h, h1, refC, dlh_some, List.drop_zero, la58, lo_sl, addrPos, ia58, Bool.false_eq_true, if_false, Pos.atSlot, Bool.or_false, o_fn, args_cons, args_nil, mk_H, env_cons, if_true, dcl_some, List.all_cons, DV.flat, List.all_nil, Bool.and_self, List.map_cons, List.map_nil, true_and]
  refine app38 (by omega) ?_
  simp only [hold_app2, mk_called, Pos.isHp, List.filter_cons, Bool.not_true, Bool.false_eq_true, List.filter_nil, if_false, mk_put?_some, dropLk, hold_app, tS_cons, g_none, o_assign, Nat.reduceLT, take_tmp, takK, look_hit, DV.roA, DV.ro, mk_put, tS_nil, w_seq, w_region, mk_clean, o_move, move_tmp, movK, o_bin, nil_int, rho_tmp, rho_const, constDV, b_lss, w_cond, cd, decide_eq_true_eq, take_const, w_ret, ret_two, DV.flat, Nat.reduceBEq, look_miss, and_true, true_and, decide_eq_false_iff_not, w_skip, o_nilCheck, dnil, o_fieldAddr, fp61_0, Nat.add_zero, o_load, ld_h, h1, refC, dlh_some, List.drop_zero, la58, lo_sl, addrPos, ia58, Pos.atSlot, Bool.or_false, o_indexAddr, ix58, List.length_map, DV.cells, fv75_1, ld_vptr]
  refine ⟨fun e2 => by simpa [e2] using hK, fun e2 => ?_⟩
  simp only [fileD_at' (Int.not_lt.1 e2) hlt.1, List.drop_succ_cons, List.drop_zero, la9, DV.ro, hold_app, Nat.reduceLT, rho_tmp, look_hit, lo_str, dropLk, Nat.reduceBEq, Pos.atSlot, Bool.or_false, Bool.false_eq_true, if_false, tS_cons, g_none, o_assign, take_tmp, takK, DV.roA, mk_put, take_const, constDV, tS_nil, hold_app2, w_ret, ret_two, DV.flat, look_miss, and_true, true_and]
  refine ⟨by omega, by omega, ?_⟩
  simpa [e2] using hK
noncomputable def b23 : Code := (Go.Proofs.Try.f23.body).getD .skip
theorem hb23 : Go.Proofs.Try.f23.body = some b23 := by kernel_rfl
/-- ref's Room. -/
def S23 : Spec := fun H args K => ∃ id l kept acts most v, args = [.ptr id 0, .int .i64 v] ∧ RefAt H id l kept acts most ∧ K (H.set id (.cells (refC l kept acts (min (max v 0) 1000000)))) (.tup [])
theorem rc23 {I : Jd pp} (hI : ∀ w e, I.Ok w e) : RC I 23 S23 := by
  refine rc_of_code (isObj := isO) (Γ := envOf []) (rs := []) mixed hI (envOf_rc (by simp)) Go.Proofs.Try.func23 (by kernel_rfl) hb23 Go.Proofs.Try.results23 Go.Proofs.Try.ntmps23 (by decide) ?_
  rintro H args K ⟨id, l, kept, acts, most, v, rfl, hs, hK⟩
  have h1 : H[id]? = some (.cells (refC l kept acts most)) := hs
  refine ⟨by simp, rfl, ?_⟩
  unfold b23 Go.Proofs.Try.f23
  simp only [Option.getD_some, argSlots, DV.ro, Nat.zero_add, w_region, mk_clean, tS_cons, g_none, hold_app, o_move, Nat.reduceLT, move_tmp, movK, look_hit, DV.roA, dropLk, Nat.reduceBEq, look_miss, o_min, rho_tmp, rho_const, constDV, m_min, mk_put?_some, o_max, m_max, o_nilCheck, dnil, o_fieldAddr, fp61_3, o_store, take_tmp, takK, st_h, h1, refC, sth_some, us3, DV.cells, List.length_cons, List.length_nil, cn3, List.all_cons, DV.scalar, List.all_nil, Bool.and_self, Nat.reduceAdd, Nat.reduceLeDiff, putAt_eq, List.take_succ_cons, List.take_zero, List.cons_append, List.nil_append, List.drop_succ_cons, List.drop_nil, List.append_nil, mk_setH, Pos.inHp, List.filter_nil, tS_nil, hold_app2, ret_none', true_and]
  have e : (if 0 < if 1000000 < v then 1000000 else v then if 1000000 < v then 1000000 else v else 0) = min (max v 0) 1000000 := by split <;> split at * <;> omega
  rw [e]
  exact hK

noncomputable def b11 : Code := (Go.Proofs.Try.f11.body).getD .skip
theorem hb11 : Go.Proofs.Try.f11.body = some b11 := by kernel_rfl
/-- ref's New. -/
def S11a : Spec := fun H args K => ∃ v, args = [.int .i64 v] ∧ K (H ++ [HObj.cells [.sl true 2 [], .sl true 2 [], .sl true 3 [], .int .i64 (min (max v 0) 1000000)]]) (.ptr H.length 0)
theorem rc11a {I : Jd pp} (hI : ∀ w e, I.Ok w e) : RC I 11 S11a := by
  refine rc_of_code (isObj := isO) (Γ := envOf []) (rs := [2]) mixed hI (envOf_rc (by simp)) Go.Proofs.Try.func11 (by kernel_rfl) hb11 Go.Proofs.Try.results11 Go.Proofs.Try.ntmps11 (by decide) ?_
  rintro H args K ⟨v, rfl, hK⟩
  refine ⟨by simp, rfl, ?_⟩
  unfold b11 Go.Proofs.Try.f11
  simp only [Option.getD_some, argSlots, DV.ro, w_seq, w_region, mk_clean, tS_cons, g_none, hold_app, o_assign, take_const, constDV, mk_put, dropLk, tS_nil, hold_app2, o_move, Nat.reduceLT, move_tmp, movK, Nat.reduceBEq, look_miss, look_hit, DV.roA, o_min, rho_tmp, rho_const, m_min, mk_put?_some, o_max, m_max, bd61, bd61_3, take_tmp, takK, bdk_eq, DV.cells, List.length_cons, List.length_nil, Nat.zero_add, Nat.reduceAdd, Nat.reduceLeDiff, List.all_cons, DV.scalar, List.all_nil, Bool.and_self, putAt_eq, List.take_succ_cons, List.take_zero, List.cons_append, List.nil_append, List.drop_succ_cons, List.drop_nil, List.append_nil, bd_nil, o_box, List.map_cons, DV.ro1, List.map_nil, no61, w_ret, ret_one, DV.flat, true_and]
  have e : (if 0 < if 1000000 < v then 1000000 else v then if 1000000 < v then 1000000 else v else 0) = min (max v 0) 1000000 := by split <;> split at * <;> omega
  rw [e]
  exact hK

noncomputable def b21 : Code := (Go.Proofs.Try.f21.body).getD .skip
theorem hb21 : Go.Proofs.Try.f21.body = some b21 := by kernel_rfl
def S21a : Spec := fun H args K => ∃ id l kept acts most, args = [.ptr id 0] ∧ RefAt H id l kept acts most ∧ K (H.set id (.cells [.sl false 2 (l.map fileD), .sl false 2 (l.map fileD), .sl true 3 [], .int .i64 most])) (.tup [])
theorem rc21a {I : Jd pp} (hI : ∀ w e, I.Ok w e) : RC I 21 S21a := by
  refine rc_of_code (isObj := isO) (Γ := envOf []) (rs := []) mixed hI (envOf_rc (by simp)) Go.Proofs.Try.func21 (by kernel_rfl) hb21 Go.Proofs.Try.results21 Go.Proofs.Try.ntmps21 (by decide) ?_
  rintro H args K ⟨id, l, kept, acts, most, rfl, hs, hK⟩
  have h1 : H[id]? = some (.cells (refC l kept acts most)) := hs
  refine ⟨by simp, rfl, ?_⟩
  unfold b21 Go.Proofs.Try.f21
  simp only [Option.getD_some, argSlots, DV.ro, w_seq, w_region, mk_clean, tS_cons, g_none, hold_app, o_move, Nat.reduceLT, move_tmp, movK, look_hit, DV.roA, dropLk, Nat.reduceBEq, look_miss, o_nilCheck, dnil, rho_tmp, mk_put?_some, o_fieldAddr, fp61_0, Nat.add_zero, o_load, ld_h, h1, refC, dlh_some, List.drop_zero, la58, lo_sl, addrPos, ia58, Bool.false_eq_true, if_false, Pos.atSlot, Bool.or_false, fp61_1, Nat.zero_add, o_store, take_tmp, takK, lkGet, if_true, own_hp, ohp_some, List.getElem?_cons_zero, ownSz_f, reduceCtorEq, un_hp, unh_some, listRo_eq, DV.ro1, List.getD_cons_zero, List.set_cons_zero, st_h, sth_some, Proofs.Try.underlying58, Option.isSome_some, DV.cells, List.length_cons, List.length_nil, cn58, List.all_cons, DV.scalar, List.all_nil, Bool.and_self, Nat.reduceAdd, Nat.reduceLeDiff, putAt_eq, List.take_succ_cons, List.take_zero, List.cons_append, List.nil_append, List.drop_succ_cons, mk_setH, Pos.inHp, List.filter_cons, List.filter_nil, tS_nil, hold_app2, fp61_2, take_const, constDV, Proofs.Try.underlying59, cn69, List.getElem?_set_self', Option.map_eq_map, Option.map_some, Function.const_apply, cn59, List.set_set, ret_none', true_and]
  exact hK
/-- ref's Keep. -/
def S21 : Spec := fun H args K => ∃ id l kept acts most, args = [.ptr id 0] ∧ RefAt H id l kept acts most ∧ K (H.set id (.cells (refC l l [] most))) (.tup [])
theorem rc21 {I : Jd pp} (hI : ∀ w e, I.Ok w e) : RC I 21 S21 := by
  refine (rc21a hI).wk ?_
  rintro H args K ⟨id, l, kept, acts, most, rfl, h1, hK⟩
  refine ⟨id, l, kept, acts, most, rfl, h1, _, HLess.set ⟨by simp [refC], fun j c' hc => ?_⟩, hK⟩
  match j with
  | 0 => cases hc; exact ⟨_, rfl, .inl ⟨rfl, rfl⟩⟩
  | 1 => cases hc; exact ⟨_, rfl, .inl ⟨rfl, rfl⟩⟩
  | 2 => cases hc; exact ⟨_, rfl, .inr (.inl rfl)⟩
  | 3 => cases hc; exact ⟨_, rfl, .inl ⟨rfl, rfl⟩⟩
  | j + 4 => simp [refC] at hc
end Go.Ab.Sh
