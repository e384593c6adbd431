/- A part of the proofs that a law function returns true at every input; it has no condition of its own. -/
import Derived.Test.YtcljbddnnnbihaaShR3
set_option linter.unusedSimpArgs false
set_option linter.unusedVariables false
/- ShR4: The reference shelf: do. -/
namespace Go.Ab.Sh
open Go Go.Conc Go.RowKit Go.Ab
set_option maxRecDepth 10000
noncomputable def b40 : Code := (Go.Proofs.Try.f40.body).getD .skip
theorem hb40 : Go.Proofs.Try.f40.body = some b40 := by kernel_rfl
/-- ref's do. -/
def S40 : Spec := fun H args K => ∃ id l kept acts most a, args = [.ptr id 0, actD a] ∧ RefAt H id l kept acts most ∧ l.length < 100000 ∧ acts.length < 100000 ∧ ((a.kind = 2 ∨ a.kind = 3) → 0 ≤ findI l a.name) ∧ (atD l (findI l a.name)).length + a.b.length ≤ 9223372036854775807 ∧
  K (H.set id (.cells (refC (rdoneF l a) kept (acts ++ [a]) most))) (.tup [])
theorem app43 {H : List HObj} {K : List HObj → DV → Prop} {own : Bool} {l : Files} (a : Act) (h1 : l.length < 100000) (h2 : (a.kind = 2 ∨ a.kind = 3) → 0 ≤ findI l a.name) (h3 : (atD l (findI l a.name)).length + a.b.length ≤ 9223372036854775807)
    (h : K H (.sl (rown a) 2 (List.map fileD (rdoneF l a)))) : app S43 H [.sl own 2 (List.map fileD l), .agg [.int .i64 a.kind, .str a.name, .str a.b]] K := ⟨own, l, a, rfl, h1, h2, h3, h⟩
def S40a : Spec := fun H args K => ∃ id l kept acts most a, args = [.ptr id 0, actD a] ∧ RefAt H id l kept acts most ∧ l.length < 100000 ∧ acts.length < 100000 ∧ ((a.kind = 2 ∨ a.kind = 3) → 0 ≤ findI l a.name) ∧ (atD l (findI l a.name)).length + a.b.length ≤ 9223372036854775807 ∧
    ∀ o1 o2, K (H.set id (.cells [.sl o1 2 ((rdoneF l a).map fileD), .sl false 2 (kept.map fileD), .sl o2 3 ((acts ++ [a]).map actD), .int .i64 most])) (.tup [])
theorem rc40a {I : Jd pp} (hI : ∀ w e, I.Ok w e) : RC I 40 S40a := by
  refine rc_of_code (isObj := isO) (Γ := envOf [(43, S43)]) (rs := []) mixed hI (envOf_rc (by simpa using rc43 hI)) Go.Proofs.Try.func40 (by kernel_rfl) hb40 Go.Proofs.Try.results40 Go.Proofs.Try.ntmps40 (by decide) ?_
  rintro H args K ⟨id, l, kept, acts, most, a, rfl, h1, h2, h3, h4, h5, hK⟩
  have h1 : H[id]? = some (.cells (refC l kept acts most)) := h1
  refine ⟨by simp, rfl, ?_⟩
  unfold b40 Go.Proofs.Try.f40
  simp only [Option.getD_some, argSlots, DV.ro, Nat.zero_add, actD, List.map_cons, DV.ro1, List.map_nil, w_seq, w_region, mk_clean, tS_cons, g_none, hold_app, o_box, DV.cells, Nat.reduceLT, take_tmp, takK, Nat.reduceBEq, look_miss, look_hit, List.all_cons, DV.scalar, List.all_nil, Bool.and_self, nv69, bgen_eq, bget_nil, bset_nil, dropLk, tS_nil, hold_app2, true_and]
  refine w_draw [6, 9] (.quiet 0 (.quiet 1 (.quiet 2 (.quiet 3 (.quiet 4 (.quiet 5 (.acts [(6, [0], .quiet 7 (.quiet 8 (.acts [(9, [], .done)])))]))))))) (by decide) (by kernel_rfl) ?_
  simp only [mk_clean, rp_quiet, rpQ_zero, g_none, hold_app, q_move, DV.roA, Nat.reduceLT, rho_tmp, Nat.reduceBEq, look_miss, look_hit, DV.ro, ex_eq, mk_put, dropLk, rpQ_succ, q_nilCheck, dnil, q_fieldAddr, fp61_0, Nat.add_zero, q_load, ld_h, h1, refC, dlh_some, List.drop_zero, la58, ld_b, bget_cons, bget_nil, if_true, dlb_some, la69, List.length_cons, List.length_nil, Nat.zero_add, Nat.reduceAdd, Nat.reduceLeDiff, List.take_succ_cons, List.take_zero, List.map_cons, DV.ro1, List.map_nil, true_and, rp_acts, ra_cons, rpA_succ, rpA_zero, o_fn, args_cons, args_nil, mk_H, env_cons, dcl_some, List.all_cons, DV.flat, List.all_nil, Bool.and_self, ra_nil, and_true]
  refine app43 a h2 h4 h5 ?_
  generalize rown a = ow
  cases ow
  all_goals simp only [hold_app2, mk_called, Pos.isHp, List.filter_nil, mk_put?_some, dropLk, hold_app, rcA_cons, rcW_zero, g_none, Nat.reduceLT, mk_t, Nat.reduceBEq, look_miss, look_hit, q_move, DV.roA, rho_tmp, DV.ro, rcA_nil, and_true, slL_cons, slW_zero, slL_nil, mk_unlink, dropLks, rp_quiet, rpQ_succ, rpQ_zero, q_nilCheck, dnil, ex_eq, mk_put, q_fieldAddr, fp61_0, Nat.add_zero, rp_acts, ra_cons, rpA_succ, rpA_zero, o_store, take_tmp, takK, lkGet, st_h, h1, refC, sth_some, Proofs.Try.underlying58, Option.isSome_some, DV.cells, List.length_cons, List.length_nil, Nat.zero_add, cn58, List.all_cons, DV.scalar, List.all_nil, Bool.and_self, Nat.reduceAdd, Nat.reduceLeDiff, putAt_eq, List.take_zero, List.nil_append, List.drop_succ_cons, List.drop_zero, List.cons_append, mk_setH, Pos.inHp, rp_done, true_and, ra_nil]
  all_goals refine w_draw [5, 7, 8, 11] (.quiet 0 (.quiet 1 (.quiet 2 (.quiet 3 (.quiet 4 (.quiet 6 (.acts [(5, [6, 0], .acts [(7, [4, 3, 2, 1, 0], .acts [(8, [0], .quiet 9 (.quiet 10 (.acts [(11, [], .done)])))])]), (7, [4, 3, 2, 1, 0], .acts [(5, [6, 0], .acts [(8, [0], .quiet 9 (.quiet 10 (.acts [(11, [], .done)])))])])]))))))) (by decide) (by kernel_rfl) ?_
  all_goals simp only [mk_clean, rp_quiet, rpQ_zero, g_none, hold_app, q_move, DV.roA, Nat.reduceLT, rho_tmp, Nat.reduceBEq, look_miss, look_hit, DV.ro, ex_eq, mk_put, dropLk, rpQ_succ, q_nilCheck, dnil, q_fieldAddr, fp61_2, Nat.zero_add, q_load, ld_h, List.getElem?_set_self', h1, refC, Option.map_eq_map, Option.map_some, Function.const_apply, dlh_some, List.drop_succ_cons, List.drop_zero, la59, ld_b, bget_cons, bget_nil, if_true, dlb_some, la69, List.length_cons, List.length_nil, Nat.reduceAdd, Nat.reduceLeDiff, List.take_succ_cons, List.take_zero, List.map_cons, DV.ro1, List.map_nil, true_and, rp_acts, ra_cons, rpA_succ, rpA_zero, o_append, ap59, take_const, constDV, Proofs.Try.underlying59, cn69, apd_own, List.length_map, List.nil_append, rcA_cons, rcW_succ, rcW_zero, mk_t, and_true, rcA_nil, slL_cons, slW_succ, slW_zero, slL_nil, mk_unlink, dropLks, bs59, DV.cells, List.all_cons, DV.scalar, List.all_nil, Bool.and_self, take_tmp, takK, o_store, st_h, sth_some, Option.isSome_some, cn59, putAt_eq, List.cons_append, mk_setH, List.set_set, Pos.inHp, List.filter_nil, rp_done, hold_app2, ret_none', ra_nil]
  · have := hK false true
    simp only [List.map_append, List.map_cons, List.map_nil, actD] at this
    exact ⟨⟨by omega, by omega, by omega, by omega, this⟩, by omega, by omega, by omega, by omega, this⟩
  · have := hK true true
    simp only [List.map_append, List.map_cons, List.map_nil, actD] at this
    exact ⟨⟨by omega, by omega, by omega, by omega, this⟩, by omega, by omega, by omega, by omega, this⟩
theorem rc40 {I : Jd pp} (hI : ∀ w e, I.Ok w e) : RC I 40 S40 := by
  refine (rc40a hI).wk ?_
  rintro H args K ⟨id, l, kept, acts, most, a, rfl, h1, h2, h3, h4, h5, hK⟩
  refine ⟨id, l, kept, acts, most, a, rfl, h1, h2, h3, h4, h5, fun o1 o2 => ⟨_, HLess.set ⟨by simp [refC], fun j c' hc => ?_⟩, hK⟩⟩
  match j with
  | 0 => cases hc; exact ⟨_, rfl, .inr (.inl rfl)⟩
  | 1 => cases hc; exact ⟨_, rfl, .inl ⟨rfl, rfl⟩⟩
  | 2 => cases hc; exact ⟨_, rfl, .inr (.inl rfl)⟩
  | 3 => cases hc; exact ⟨_, rfl, .inl ⟨rfl, rfl⟩⟩
  | j + 4 => simp [refC] at hc
end Go.Ab.Sh
