/- A part of the proofs that a law function returns true at every input; it has no condition of its own. -/
import Derived.Test.YtefaplodmbdhlaaOrA
set_option linter.unusedSimpArgs false
set_option linter.unusedVariables false
/- OrB: The order laws: deals held against each other; a row of them copied. -/
namespace Go.Ab.Or
open Go Go.Conc Go.RowKit Go.Ab
set_option maxRecDepth 10000
def isO15 : ObjT := fun t => t == 24
theorem isO15_eq {t : TypeId} : isO15 t = (t == 24) := _root_.id rfl
structure DC where
  lv : Int
  n : Int
  turn : Int
  r : DV
  w : DV
def DC.cells (x : DC) : List DV := [.int .i64 x.lv, .int .i64 x.n, .int .i64 x.turn, x.r, x.w]
def DC.ok (x : DC) : Prop := x.r.ro1 = x.r ∧ x.r.scalar = true ∧ x.w.ro1 = x.w ∧ x.w.scalar = true
noncomputable def b18 : Code := (Go.Proofs.Try.f18.body).getD .skip
theorem hb18 : Go.Proofs.Try.f18.body = some b18 := by kernel_rfl
def SPl : Spec := fun H args K => ∃ L own lv levels, args = [.int .i64 lv, .ptr L 0] ∧ H[L]? = some (.cells [.sl own 1 (levels.map (.int .i64))]) ∧ levels.length < 4611686018427387904 ∧ K H (.int .i64 (idxI levels lv))
theorem appPl {H : List HObj} {K : List HObj → DV → Prop} {L : Nat} {own : Bool} {lv : Int} {levels : List Int} (h0 : H[L]? = some (.cells [.sl own 1 (levels.map (.int .i64))])) (h1 : levels.length < 4611686018427387904) (h : K H (.int .i64 (idxI levels lv))) : app SPl H [.int .i64 lv, .ptr L 0] K := ⟨L, own, lv, levels, rfl, h0, h1, h⟩
theorem rcPl {I : Jd pp} (hI : ∀ w e, I.Ok w e) : RC I 18 SPl := by
  refine rc_of_code (isObj := isO) (Γ := envOf [(19, SIdx)]) (rs := [3]) mixed hI (envOf_rc (by simpa using rcIdx hI)) Go.Proofs.Try.func18 (by kernel_rfl) hb18 Go.Proofs.Try.results18 Go.Proofs.Try.ntmps18 (by decide) ?_
  rintro H args K ⟨L, own, lv, levels, rfl, hL, h1, hK⟩
  refine ⟨by simp, rfl, ?_⟩
  unfold b18 Go.Proofs.Try.f18
  simp only [Option.getD_some, argSlots, vro_int, Nat.zero_add, vro_ptr, w_seq, w_region, mk_clean, tS_cons, g_none, hold_app, o_assign, take_const, constDV, mk_put, dropLk, tS_nil, hold_app2, o_load, Nat.reduceLT, rho_tmp, Nat.reduceBEq, look_miss, look_hit, ld_h, hL, dlh_some, List.drop_zero, la57, vro_sl, lo_sl, addrPos, ia57, Bool.false_eq_true, if_false, o_move, move_tmp, movK, vroA_int, Pos.atSlot, Bool.or_self, o_fn, args_cons, args_nil, mk_H, env_cons, if_true, dcl_some, List.all_cons, vfla_sl, vfla_int, List.all_nil, Bool.and_self, List.map_cons, List.map_nil, true_and]
  refine appIdx h1 ?_
  simp only [hold_app2, mk_called, Pos.isHp, List.filter_cons, Bool.not_true, Bool.false_eq_true, List.filter_nil, if_false, mk_put?_some, dropLk, hold_app, tS_cons, g_none, o_assign, Nat.reduceLT, take_tmp, takK, look_hit, vroA_int, mk_put, tS_nil, w_ret, ret_one, vfla_int, true_and]
  exact hK
noncomputable def b21 : Code := (Go.Proofs.Try.f21.body).getD .skip
theorem hb21 : Go.Proofs.Try.f21.body = some b21 := by kernel_rfl
def cmpD (levels : List Int) (a b : DC) : Int := if cmpI a.turn b.turn = 0 then cmpI (idxI levels b.lv) (idxI levels a.lv) else cmpI a.turn b.turn
def SCd : Spec := fun H args K => ∃ P L own a b levels, args = [.agg (DC.cells a), .agg (DC.cells b), .ptr P 0] ∧ a.ok ∧ b.ok ∧ H[P]? = some (.cells [.fn 18 [.ptr L 0]]) ∧ H[L]? = some (.cells [.sl own 1 (levels.map (.int .i64))]) ∧ levels.length < 4611686018427387904 ∧ K H (.int .i64 (cmpD levels a b))
theorem appCd {H : List HObj} {K : List HObj → DV → Prop} {P L : Nat} {own : Bool} {a b : DC} {levels : List Int} (ha : a.ok) (hb : b.ok) (hP : H[P]? = some (.cells [.fn 18 [.ptr L 0]])) (h0 : H[L]? = some (.cells [.sl own 1 (levels.map (.int .i64))])) (h1 : levels.length < 4611686018427387904)
    (h : K H (.int .i64 (cmpD levels a b))) : app SCd H [.agg (DC.cells a), .agg (DC.cells b), .ptr P 0] K := ⟨P, L, own, a, b, levels, rfl, ha, hb, hP, h0, h1, h⟩
theorem rcCd {I : Jd pp} (hI : ∀ w e, I.Ok w e) : RC I 21 SCd := by
  refine rc_of_code (isObj := isO) (Γ := envOf [(23, SCmp), (18, SPl), (22, SOr)]) (rs := [5]) mixed hI (envOf_rc (by simpa using ⟨rcCmp hI, rcPl hI, rcOr hI⟩)) Go.Proofs.Try.func21 (by kernel_rfl) hb21 Go.Proofs.Try.results21 Go.Proofs.Try.ntmps21 (by decide) ?_
  rintro H args K ⟨P, L, own, a, b, levels, rfl, ⟨ha1, ha2, ha3, ha4⟩, ⟨hb1, hb2, hb3, hb4⟩, hP, hL, h1, hK⟩
  refine ⟨by simp, rfl, ?_⟩
  unfold b21 Go.Proofs.Try.f21
  simp only [Option.getD_some, argSlots, DC.cells, vro_agg, List.map_cons, vro1_int, ha1, ha3, List.map_nil, Nat.zero_add, hb1, hb3, Nat.reduceAdd, vro_ptr, w_seq, w_region, mk_clean, tS_cons, g_none, hold_app, o_box, Nat.reduceLT, take_tmp, takK, look_hit, vcl_agg, List.all_cons, vsca_int, ha2, ha4, List.all_nil, Bool.and_self, nv_if, isO_eq, Nat.reduceBEq, Bool.or_self, Bool.false_eq_true, dropLk, bgen_eq, bget_nil, bset_nil, if_false, look_miss, hb2, hb4, bget_cons, Nat.reduceEqDiff, bset_cons, o_assign, take_const, constDV, mk_put, tS_nil, hold_app2, true_and]
  refine w_draw [4, 8, 12, 13, 14, 15, 16] (.quiet 0 (.quiet 1 (.quiet 2 (.quiet 3 (.quiet 5 (.quiet 6 (.quiet 7 (.quiet 9 (.quiet 10 (.quiet 11 (.acts [(4, [11, 10, 9, 7, 6, 5], .acts [(8, [11, 10, 9], .acts [(12, [], .acts [(13, [], .acts [(14, [], .acts [(15, [], .acts [(16, [], .done)])])])])])])]))))))))))) (by decide) (by kernel_rfl) ?_
  simp only [mk_clean, rp_quiet, rpQ_zero, g_none, hold_app, q_fieldAddr, Nat.reduceLT, rho_tmp, Nat.reduceBEq, look_miss, look_hit, fl30_2, Nat.zero_add, ex_eq, mk_put, dropLk, rpQ_succ, q_load, ld_b, bget_cons, Nat.reduceEqDiff, bget_nil, if_false, if_true, dlb_some, List.drop_succ_cons, List.drop_zero, la3, vro_int, true_and, ld_h, hP, dlh_some, la60, vro_fn, fl30_0, Nat.add_zero, rp_acts, ra_cons, rpA_succ, rpA_zero, o_fn, args_cons, args_nil, mk_H, env_cons, dcl_some, List.all_cons, vfla_int, List.all_nil, Bool.and_self, List.map_cons, List.map_nil, ra_nil, and_true]
  refine appCmp ?_
  simp only [hold_app2, mk_called, Pos.isHp, List.filter_nil, mk_put?_some, dropLk, hold_app, rcA_cons, rcW_succ, rcW_zero, g_none, Nat.reduceLT, mk_t, Nat.reduceBEq, look_miss, look_hit, q_load, rho_tmp, ld_b, bget_cons, Nat.reduceEqDiff, bget_nil, if_false, if_true, dlb_some, List.drop_zero, la3, vro_int, and_true, q_fieldAddr, fl30_0, Nat.add_zero, ld_h, hP, dlh_some, la60, vro_fn, rcA_nil, slL_cons, slW_succ, slW_zero, slL_nil, mk_unlink, dropLks, rp_acts, ra_cons, rpA_succ, rpA_zero, o_clo, args_cons, args_nil, mk_H, clo_fn, env_cons, dcl2_some, List.all_cons, vfla_int, List.all_nil, Bool.and_self, List.map_cons, List.map_nil, vro_ptr, List.cons_append, List.nil_append, true_and, ra_nil]
  refine appPl hL h1 ?_
  simp only [hold_app2, mk_called, Pos.isHp, List.filter_nil, mk_put?_some, dropLk, hold_app, rcA_cons, rcW_succ, rcW_zero, g_none, Nat.reduceLT, mk_t, Nat.reduceBEq, look_miss, look_hit, q_load, rho_tmp, ld_b, bget_cons, Nat.reduceEqDiff, bget_nil, if_false, if_true, dlb_some, List.drop_zero, la3, vro_int, and_true, q_fieldAddr, fl30_0, Nat.add_zero, ld_h, hP, dlh_some, la60, vro_fn, rcA_nil, slL_cons, slW_succ, slW_zero, slL_nil, mk_unlink, dropLks, rp_acts, ra_cons, rpA_succ, rpA_zero, o_clo, args_cons, args_nil, mk_H, clo_fn, env_cons, dcl2_some, List.all_cons, vfla_int, List.all_nil, Bool.and_self, List.map_cons, List.map_nil, vro_ptr, List.cons_append, List.nil_append, true_and, ra_nil]
  refine appPl hL h1 ?_
  simp only [hold_app2, mk_called, Pos.isHp, List.filter_nil, mk_put?_some, dropLk, hold_app, rcA_nil, slL_nil, mk_unlink, dropLks, rp_acts, ra_cons, rpA_succ, rpA_zero, g_none, o_fn, args_cons, Nat.reduceLT, rho_tmp, Nat.reduceBEq, look_miss, look_hit, args_nil, mk_H, env_cons, Nat.reduceEqDiff, if_false, if_true, dcl_some, List.all_cons, vfla_int, List.all_nil, Bool.and_self, List.map_cons, vro_int, List.map_nil, true_and, ra_nil, and_true]
  refine appCmp ?_
  simp only [hold_app2, mk_called, Pos.isHp, List.filter_nil, mk_put?_some, dropLk, hold_app, rcA_nil, slL_nil, mk_unlink, dropLks, rp_acts, ra_cons, rpA_succ, rpA_zero, g_none, bs57_2, isO_eq, Nat.reduceBEq, Bool.or_self, Nat.reduceLT, rho_tmp, look_miss, look_hit, vro_int, bsl_f, List.all_cons, vcl_int, List.length_cons, List.length_nil, Nat.zero_add, beq_self_eq_true, vsca_int, List.all_nil, Bool.and_self, o_fn, args_cons, args_nil, mk_H, env_cons, Nat.reduceEqDiff, if_true, if_false, dcl_some, vfla_sl, List.map_cons, vro_sl, List.map_nil, true_and, ra_nil, and_true]
  refine appOr ?_
  simp only [hold_app2, mk_called, Pos.isHp, List.filter_nil, mk_put?_some, dropLk, hold_app, rcA_nil, slL_nil, mk_unlink, dropLks, rp_acts, ra_cons, rpA_succ, rpA_zero, g_none, o_assign, Nat.reduceLT, take_tmp, takK, look_hit, vroA_int, mk_put, rp_done, w_ret, ret_one, vfla_int, true_and, ra_nil, and_true]
  exact hK
noncomputable def b15 : Code := (Go.Proofs.Try.f15.body).getD .skip
theorem hb15 : Go.Proofs.Try.f15.body = some b15 := by kernel_rfl
/-- slices.Clone of deals: the row is an object. -/
def SClone : Spec := fun H args K => ∃ own x l, args = [.sl own 5 (x :: l)] ∧ l.length < 100000 ∧ ∀ k, K (H ++ [.cells (((x :: l).flatMap DV.cells).map DV.ro1 ++ List.replicate k .undef)]) (.hsl H.length 5 0 (l.length + 1))
theorem rcClone {I : Jd pp} (hI : ∀ w e, I.Ok w e) : RC I 15 SClone := by
  refine rc_of_code (isObj := isO15) (Γ := envOf []) (rs := [2]) mixed hI (envOf_rc (by simp)) Go.Proofs.Try.func15 (by kernel_rfl) hb15 Go.Proofs.Try.results15 Go.Proofs.Try.ntmps15 (by decide) ?_
  rintro H args K ⟨own, x, l, rfl, h1, hK⟩
  refine ⟨by simp, rfl, ?_⟩
  unfold b15 Go.Proofs.Try.f15
  cases own <;> simp only [Option.getD_some, argSlots, vro_sl, w_seq, w_region, mk_clean, tS_cons, g_none, hold_app, o_assign, take_const, constDV, Proofs.Try.underlying24, cn30, mk_put, dropLk, tS_nil, hold_app2, o_move, Nat.reduceLT, move_tmp, movK, Nat.reduceBEq, look_miss, look_hit, lkGet, o_bin, nil_sl, rho_tmp, n_eql Go.Proofs.Try.underlying24, mk_put?_some, w_cond, cd, Bool.false_eq_true, w_ret, ret_one, vfla_sl, true_and, false_implies, w_skip, bs24_0, o_append, isO15_eq, beq_self_eq_true, apo24_24, take_tmp, takK, apdO_own, List.length_cons, Nat.reduceLeDiff, List.flatMap_cons, vroA_hsl, vfla_hsl, ap24_24, apd_own, List.length_nil, Nat.zero_add, List.nil_append, if_true, true_implies, reduceCtorEq, Bool.true_eq_false, and_true, rho_const]
  all_goals exact ⟨by omega, by omega, hK⟩
noncomputable def b37 : Code := (Go.Proofs.Try.f37.body).getD .skip
theorem hb37 : Go.Proofs.Try.f37.body = some b37 := by kernel_rfl
noncomputable def b30 : Code := (Go.Proofs.Try.f30.body).getD .skip
theorem hb30 : Go.Proofs.Try.f30.body = some b30 := by kernel_rfl
noncomputable def b20 : Code := (Go.Proofs.Try.f20.body).getD .skip
theorem hb20 : Go.Proofs.Try.f20.body = some b20 := by kernel_rfl
noncomputable def C37 : Spec := byCode pp isO (envOf [(21, SCd)]) b37 [] 53
theorem rcC37 {I : Jd pp} (hI : ∀ w e, I.Ok w e) : RC I 37 C37 :=
  rc_byCode mixed hI (envOf_rc (by simpa using rcCd hI)) Go.Proofs.Try.func37 (by kernel_rfl) hb37 Go.Proofs.Try.results37 Go.Proofs.Try.ntmps37 (by decide)
noncomputable def C30 : Spec := byCode pp isO (envOf [(37, C37)]) b30 [] 63
theorem rcC30 {I : Jd pp} (hI : ∀ w e, I.Ok w e) : RC I 30 C30 :=
  rc_byCode mixed hI (envOf_rc (by simpa using rcC37 hI)) Go.Proofs.Try.func30 (by kernel_rfl) hb30 Go.Proofs.Try.results30 Go.Proofs.Try.ntmps30 (by decide)
noncomputable def C20 : Spec := byCode pp isO (envOf [(30, C30)]) b20 [] 9
theorem rcC20 {I : Jd pp} (hI : ∀ w e, I.Ok w e) : RC I 20 C20 :=
  rc_byCode mixed hI (envOf_rc (by simpa using rcC30 hI)) Go.Proofs.Try.func20 (by kernel_rfl) hb20 Go.Proofs.Try.results20 Go.Proofs.Try.ntmps20 (by decide)
end Go.Ab.Or
