/- A part of the proofs that a law function returns true at every input; it has no condition of its own. -/
import Derived.Test.YtcljbddnnnbihaaShA
set_option linter.unusedSimpArgs false
set_option linter.unusedVariables false
/- ShB: The shelf's acts. -/
namespace Go.Ab.Sh
open Go Go.Conc Go.RowKit Go.Ab
set_option maxRecDepth 10000
noncomputable def b42 : Code := (Go.Proofs.Try.f42.body).getD .skip
theorem hb42 : Go.Proofs.Try.f42.body = some b42 := by kernel_rfl
def doesF (a : Act) (fs : Files) : Files :=
  if a.kind = 1 then setF a.name a.b fs
  else if a.kind = 2 then setF a.name ((getF fs a.name).getD [] ++ a.b) fs
  else if a.kind = 3 then setF a.b ((getF fs a.name).getD []) (delF a.name fs)
  else if a.kind = 4 then delF a.name fs
  else fs
theorem hset {H : List HObj} {i j : Nat} {x : HObj} (h : i < H.length) : (H.set i x)[i]? = some x := by simp [h]
theorem hset_ne {H : List HObj} {i j : Nat} {x : HObj} (h : i ≠ j) : (H.set i x)[j]? = H[j]? := by simp [h]
/-- does. -/
def S42 : Spec := fun H args K => ∃ m fs a, args = [.map m, actD a] ∧ H[m]? = some (.map (enc fs)) ∧ ((getF fs a.name).getD []).length + a.b.length ≤ 9223372036854775807 ∧ K (H.set m (.map (enc (doesF a fs)))) (.tup [])
theorem rc42 {I : Jd pp} (hI : ∀ w e, I.Ok w e) : RC I 42 S42 := by
  refine rc_of_code (isObj := isO) (Γ := envOf []) (rs := []) mixed hI (envOf_rc (by simp)) Go.Proofs.Try.func42 (by kernel_rfl) hb42 Go.Proofs.Try.results42 Go.Proofs.Try.ntmps42 (by decide) ?_
  rintro H args K ⟨m, fs, a, rfl, h1, h2, hK⟩
  have hm : m < H.length := (List.getElem?_eq_some_iff.1 h1).1
  have hs : ∀ x, (H.set m x)[m]? = some x := fun x => hset (j := 0) hm
  refine ⟨by simp, rfl, ?_⟩
  unfold b42 Go.Proofs.Try.f42
  simp only [Option.getD_some, argSlots, DV.ro, Nat.zero_add, actD, List.map_cons, DV.ro1, List.map_nil, w_seq, w_region, mk_clean, tS_cons, g_none, hold_app, o_box, DV.cells, Nat.reduceLT, take_tmp, takK, Nat.reduceBEq, look_miss, look_hit, List.all_cons, DV.scalar, List.all_nil, Bool.and_self, nv65, bgen_eq, bget_nil, bset_nil, dropLk, tS_nil, hold_app2, o_fieldAddr, rho_tmp, fl65_0, Nat.add_zero, mk_put?_some, o_load, ld_b, bget_cons, if_true, dlb_some, List.drop_zero, la3, lo_int, w_block, o_bin, nil_int, Bool.false_eq_true, rho_const, constDV, b_eql, o_assign, DV.roA, mk_put, w_cond, cd, o_move, move_tmp, movK, fl65_1, List.drop_succ_cons, la9, lo_str, fl65_2, o_mapUpdate, DV.plain, mu_h Go.Proofs.Try.underlying54, h1, kt9, mk_setH, Pos.inHp, List.filter_nil, true_and, onMap_some, all_enc, set_enc, mk_put?_none, ret_none', o_lookup, lk_h Go.Proofs.Try.underlying54, find_enc, lf9', nil_tmp, s_add, if_false, o_delete, md_h Go.Proofs.Try.underlying54, del_enc, hs, List.set_set, w_skip]
  simp only [decide_eq_true_eq, decide_eq_false_iff_not, List.set_set]
  refine ⟨fun e => by simpa [doesF, e] using hK, fun e1 => ⟨fun e => ⟨h2, by simpa [doesF, e1, e] using hK⟩, fun e2 => ⟨fun e => by simpa [doesF, e1, e2, e] using hK, fun e3 => ⟨fun e => by simpa [doesF, e1, e2, e3, e] using hK, fun e4 => ?_⟩⟩⟩⟩
  have : H.set m (.map (enc fs)) = H := List.ext_getElem? fun k => by
    rw [List.getElem?_set]
    split
    · rename_i e; subst e; rw [h1]
    · rfl
  simpa [doesF, e1, e2, e3, e4, this] using hK

noncomputable def b36 : Code := (Go.Proofs.Try.f36.body).getD .skip
theorem hb36 : Go.Proofs.Try.f36.body = some b36 := by kernel_rfl
theorem app42 {H : List HObj} {K : List HObj → DV → Prop} {m : Nat} (fs : Files) (a : Act) (h1 : H[m]? = some (.map (enc fs))) (h2 : ((getF fs a.name).getD []).length + a.b.length ≤ 9223372036854775807) (h : K (H.set m (.map (enc (doesF a fs)))) (.tup [])) : app S42 H [.map m, .agg [.int .i64 a.kind, .str a.name, .str a.b]] K := ⟨m, fs, a, rfl, h1, h2, h⟩
/-- done. -/
def S36 : Spec := fun H args K => ∃ id k n kept now acts room a, args = [.ptr id 0, actD a] ∧ ShelfAt H id k n kept now acts room ∧ ((getF now a.name).getD []).length + a.b.length ≤ 9223372036854775807 ∧ acts.length < 100000 ∧
  K ((H.set n (.map (enc (doesF a now)))).set id (.cells (shelfC k n (acts ++ [a]) room))) (.int .i64 0)
theorem rc36 {I : Jd pp} (hI : ∀ w e, I.Ok w e) : RC I 36 S36 := by
  refine rc_of_code (isObj := isO) (Γ := envOf [(42, S42)]) (rs := [4]) mixed hI (envOf_rc (by simpa using rc42 hI)) Go.Proofs.Try.func36 (by kernel_rfl) hb36 Go.Proofs.Try.results36 Go.Proofs.Try.ntmps36 (by decide) ?_
  rintro H args K ⟨id, k, n, kept, now, acts, room, a, rfl, ⟨h1, h2, h3, h4⟩, h5, h6, hK⟩
  refine ⟨by simp, rfl, ?_⟩
  unfold b36 Go.Proofs.Try.f36
  simp only [Option.getD_some, argSlots, DV.ro, Nat.zero_add, actD, List.map_cons, DV.ro1, List.map_nil, w_seq, w_region, mk_clean, tS_cons, g_none, hold_app, o_box, DV.cells, Nat.reduceLT, take_tmp, takK, Nat.reduceBEq, look_miss, look_hit, List.all_cons, DV.scalar, List.all_nil, Bool.and_self, nv65, bgen_eq, bget_nil, bset_nil, dropLk, o_assign, take_const, constDV, mk_put, tS_nil, hold_app2, true_and]
  refine w_draw [5] (.quiet 0 (.quiet 1 (.quiet 2 (.quiet 3 (.quiet 4 (.acts [(5, [], .done)])))))) (by decide) (by kernel_rfl) ?_
  simp only [mk_clean, rp_quiet, rpQ_zero, g_none, hold_app, q_move, DV.roA, Nat.reduceLT, rho_tmp, Nat.reduceBEq, look_miss, look_hit, DV.ro, ex_eq, mk_put, dropLk, rpQ_succ, q_nilCheck, dnil, q_fieldAddr, fp57_1, Nat.zero_add, q_load, ld_h, h1, shelfC, dlh_some, List.drop_succ_cons, List.drop_zero, la54, ld_b, bget_cons, bget_nil, if_true, dlb_some, la65, List.length_cons, List.length_nil, Nat.reduceAdd, Nat.reduceLeDiff, List.take_succ_cons, List.take_zero, List.map_cons, DV.ro1, List.map_nil, true_and, rp_acts, ra_cons, rpA_succ, rpA_zero, o_fn, args_cons, args_nil, mk_H, env_cons, dcl_some, List.all_cons, DV.flat, List.all_nil, Bool.and_self, ra_nil, and_true]
  refine app42 now a h3 h5 ?_
  have hn : n ≠ id := fun e => by rw [e, h1] at h3; cases h3
  have hs : ∀ x, (H.set n x)[id]? = some (.cells (shelfC k n acts room)) := fun x => (hset_ne hn).trans h1
  simp only [hold_app2, mk_called, Pos.isHp, List.filter_nil, mk_put?_some, dropLk, hold_app, rcA_nil, slL_nil, mk_unlink, dropLks, rp_done, w_seq, true_and]
  refine w_draw [4, 6, 7, 10] (.quiet 0 (.quiet 1 (.quiet 2 (.quiet 3 (.quiet 5 (.acts [(4, [5, 0], .acts [(6, [3, 2, 1, 0], .acts [(7, [0], .quiet 8 (.quiet 9 (.acts [(10, [], .done)])))])]), (6, [3, 2, 1, 0], .acts [(4, [5, 0], .acts [(7, [0], .quiet 8 (.quiet 9 (.acts [(10, [], .done)])))])])])))))) (by decide) (by kernel_rfl) ?_
  simp only [mk_clean, rp_quiet, rpQ_zero, g_none, hold_app, q_move, DV.roA, Nat.reduceLT, rho_tmp, Nat.reduceBEq, look_miss, look_hit, DV.ro, ex_eq, mk_put, dropLk, rpQ_succ, q_nilCheck, dnil, q_fieldAddr, fp57_2, Nat.zero_add, q_load, ld_b, bget_cons, bget_nil, if_true, dlb_some, List.drop_zero, la65, List.length_cons, List.length_nil, Nat.reduceAdd, Nat.reduceLeDiff, List.take_succ_cons, List.take_zero, List.map_cons, DV.ro1, List.map_nil, true_and, rp_acts, ra_cons, rpA_succ, rpA_zero, o_load, ld_h, hs, shelfC, dlh_some, List.drop_succ_cons, la55, lo_sl, addrPos, ia55, Bool.false_eq_true, if_false, rcA_cons, rcW_succ, rcW_zero, mk_t, and_true, rcA_nil, slL_cons, slW_succ, slW_zero, slL_nil, mk_unlink, dropLks, Pos.atSlot, Bool.or_false, bs55, DV.cells, List.all_cons, DV.scalar, List.all_nil, Bool.and_self, o_append, ap55, take_tmp, takK, lkGet, own_hp, ohp_some, List.getElem?_cons_succ, List.getElem?_cons_zero, ownSz_t, un_hp, unh_some, listRo_eq, List.getD_cons_succ, List.getD_cons_zero, List.set_cons_succ, List.set_cons_zero, apd_own, o_store, st_h, List.getElem?_set_self', Option.map_eq_map, Option.map_some, Function.const_apply, sth_some, Proofs.Try.underlying55, Option.isSome_some, cn55, putAt_eq, List.cons_append, List.nil_append, mk_setH, List.set_set, Pos.inHp, List.filter_cons, List.filter_nil, rp_done, hold_app2, w_seq, w_region, tS_cons, o_assign, take_const, constDV, tS_nil, w_ret, ret_one, DV.flat, ra_nil]
  simp only [shelfC, List.map_append, List.map_cons, List.map_nil, actD] at hK
  simp only [List.length_map, actD]
  refine ⟨⟨by omega, by omega, ?_⟩, ⟨by omega, by omega, ?_⟩⟩
  all_goals exact hK
end Go.Ab.Sh
