/- A part of the proofs that a law function returns true at every input; it has no condition of its own. -/
import Derived.Test.YtcljbddnnnbihaaShK
set_option linter.unusedSimpArgs false
set_option linter.unusedVariables false
/- ShM: known. -/
namespace Go.Ab.Sh
open Go Go.Conc Go.RowKit Go.Ab
set_option maxRecDepth 10000
section
variable {P : Program} {isObj : ObjT} {Γ : Env} {K : St → Prop} {st : St} {ds : List (Option Nat)} {o : Oper} {r l : List Oper} {k : Nat}
theorem tA_nil : dtextS P isObj Γ ds (hold (List.append [] l) (tag _)) st K = dtextS P isObj Γ ds (hold l (tag _)) st K := _root_.id rfl
theorem tA_cons : dtextS P isObj Γ ds (hold (List.append (o :: r) l) (tag _)) st K = gstep ds (hold o (tag _)) st (hold (fun st => dopC P isObj Γ (hold o (tag _)) st (hold (fun st' => dtextS P isObj Γ ds (hold (List.append r l) (tag _)) st' K) (tag _))) (tag _)) (hold (fun st => dtextS P isObj Γ ds (hold (List.append r l) (tag _)) (st.put? o.dst (.tup [])) K) (tag _)) := _root_.id rfl
theorem qA_zero : gq (hold ((List.append (o :: r) l).map (·.dst)) (tag _)) 0 = o.dst := _root_.id rfl
theorem qA_succ : gq (hold ((List.append (o :: r) l).map (·.dst)) (tag _)) (k + 1) = gq (hold ((List.append r l).map (·.dst)) (tag _)) k := _root_.id rfl
theorem qA_nil : gq (hold ((List.append [] l).map (·.dst)) (tag _)) k = gq (hold (l.map (·.dst)) (tag _)) k := _root_.id rfl
variable {q n : Nat} {f f' : St → Prop} {F F' : St → Prop}
theorem gs2_tt : gs2 (.bool true) q true st f f' = f (st.setT q (.bool true)) := by simp [gs2]
theorem gs2_ft : gs2 (.bool false) q true st f f' = f' (st.setT q (.bool false)) := by simp [gs2]
theorem gs2_tf : gs2 (.bool true) q false st f f' = f' (st.setT q (.bool true)) := by simp [gs2]
theorem gs2_ff : gs2 (.bool false) q false st f f' = f (st.setT q (.bool false)) := by simp [gs2]
theorem cd_t : dcond (.bool true) F F' st = F st := by simp [dcond]
theorem cd_f : dcond (.bool false) F F' st = F' st := by simp [dcond]
end
theorem namesF_len (fs : Files) : (namesF fs).length = fs.length := by simp [namesF, List.length_mergeSort]
theorem namesF_lenD (fs : Files) : (((namesF fs).map DV.str).length : Int) = fs.length := by rw [List.length_map, namesF_len]
theorem nc0 : ((0 : Nat) : Int) = 0 := _root_.id rfl
theorem nc1 : ((1 : Nat) : Int) = 1 := _root_.id rfl
theorem nc2 : ((2 : Nat) : Int) = 2 := _root_.id rfl
noncomputable def b8 : Code := (Go.Proofs.Try.f8.body).getD .skip
theorem hb8 : Go.Proofs.Try.f8.body = some b8 := by kernel_rfl
/-- known. -/
def S8 : Spec := fun H args K => args = [] ∧ ∀ H', Fr H H' [] → K H' (.bool true)
set_option maxHeartbeats 2000000 in
theorem rc8 : RC (loneJ pp) 8 S8 := by
  have hI : ∀ w e, (loneJ pp).Ok w e := fun _ _ => trivial
  refine rc_of_code (isObj := isO) (Γ := envOf [(10, S10), (12, S12), (20, S20), (14, S14), (30, S30), (26, S26), (24, S24), (27, S27), (31, S31), (32, S32), (33, S33), (16, S16), (18, S18)]) (rs := [0]) mixed hI (envOf_rc (by simpa using ⟨rcs10, rcs12, rcs20, rcs14, rcs30, rcs26, rcs24, rcs27, rc31, rcs32, rcs33, rcs16, rcs18⟩)) Go.Proofs.Try.func8 (by kernel_rfl) hb8 Go.Proofs.Try.results8 Go.Proofs.Try.ntmps8 (by decide) ?_
  rintro H args K ⟨rfl, hK⟩
  refine ⟨by simp, rfl, ?_⟩
  unfold b8 Go.Proofs.Try.f8
  simp only [List.append_eq, List.cons_append, List.nil_append, Option.getD_some, argSlots, w_seq, w_region, mk_clean, tS_cons, g_none, hold_app, o_assign, take_const, constDV, mk_put, dropLk, tS_nil, hold_app2, o_fn, args_cons, rho_const, args_nil, mk_H, env_cons, Nat.reduceEqDiff, if_false, if_true, dcl_some, List.all_cons, DV.flat, List.all_nil, Bool.and_self, List.map_cons, DV.ro, List.map_nil, true_and]
  refine capp10 fun H1 f1 g1 s1 => ?_
  simp only [hold_app2, mk_called, Pos.isHp, List.filter_nil, mk_put?_some, dropLk, hold_app, tS_cons, g_none, o_assign, Nat.reduceLT, take_tmp, takK, look_hit, DV.roA, DV.ro, mk_put, tS_nil, w_seq, w_region, mk_clean, o_move, move_tmp, movK, o_bin, nil_ptr, Bool.false_eq_true, rho_tmp, rho_const, constDV, p_eql Go.Proofs.Try.underlying25, w_cond, cd, take_const, w_ret, ret_one, DV.flat, true_and, false_implies, w_skip, Nat.reduceBEq, look_miss, o_fn, args_cons, args_nil, mk_H, env_cons, Nat.reduceEqDiff, if_false, if_true, dcl_some, List.all_cons, List.all_nil, Bool.and_self, List.map_cons, List.map_nil, true_implies]
  refine capp12 0 s1 (by decide) (by decide) (by decide) (by decide) (by decide) (by decide) (by decide) fun H2 f2 s2 => ?_
  replace s2 : ShelfAt H2 (H.length + 2) H.length (H.length + 1) [] [([120], [97, 98])] [⟨1, [120], [97, 98]⟩] 20 := s2
  simp only [hold_app2, mk_called, Pos.isHp, List.filter_nil, mk_put?_some, dropLk, hold_app, tS_cons, g_none, o_assign, Nat.reduceLT, take_tmp, takK, look_hit, DV.roA, DV.ro, mk_put, tS_nil, w_seq, w_region, mk_clean, o_move, move_tmp, movK, Nat.reduceBEq, look_miss, o_fn, args_cons, rho_tmp, args_nil, mk_H, env_cons, Nat.reduceEqDiff, if_false, if_true, dcl_some, List.all_cons, DV.flat, List.all_nil, Bool.and_self, List.map_cons, List.map_nil, true_and]
  refine capp20 s2 fun H3 f3 g3 s3 => ?_
  simp only [hold_app2, mk_called, Pos.isHp, List.filter_nil, mk_put?_some, dropLk, hold_app, tS_nil, w_seq, w_region, mk_clean, tS_cons, g_none, o_move, Nat.reduceLT, move_tmp, movK, Nat.reduceBEq, look_miss, look_hit, DV.roA, DV.ro, o_fn, args_cons, rho_tmp, rho_const, constDV, args_nil, mk_H, env_cons, Nat.reduceEqDiff, if_false, if_true, dcl_some, List.all_cons, DV.flat, List.all_nil, Bool.and_self, List.map_cons, List.map_nil, true_and]
  refine capp14 0 s3 (by decide) (by decide) (by decide) (by decide) (by decide) (by decide) fun H4 f4 s4 => ?_
  replace s4 : ShelfAt H4 (H.length + 2) H2.length (H.length + 1) [([120], [97, 98])] [([120], [97, 98, 99, 100])] [⟨2, [120], [99, 100]⟩] 20 := s4
  simp only [hold_app2, mk_called, Pos.isHp, List.filter_nil, mk_put?_some, dropLk, hold_app, tS_cons, g_none, o_assign, Nat.reduceLT, take_tmp, takK, look_hit, DV.roA, DV.ro, mk_put, tS_nil, w_seq, w_region, mk_clean, o_move, move_tmp, movK, Nat.reduceBEq, look_miss, o_fn, args_cons, rho_tmp, rho_const, constDV, args_nil, mk_H, env_cons, Nat.reduceEqDiff, if_false, if_true, dcl_some, List.all_cons, DV.flat, List.all_nil, Bool.and_self, List.map_cons, List.map_nil, true_and]
  refine capp12 0 s4 (by decide) (by decide) (by decide) (by decide) (by decide) (by decide) (by decide) fun H5 f5 s5 => ?_
  replace s5 : ShelfAt H5 (H.length + 2) H2.length (H.length + 1) [([120], [97, 98])] [([120], [97, 98, 99, 100]), ([121], [113])] [⟨2, [120], [99, 100]⟩, ⟨1, [121], [113]⟩] 20 := s5
  simp only [hold_app2, mk_called, Pos.isHp, List.filter_nil, mk_put?_some, dropLk, hold_app, tS_cons, g_none, o_assign, Nat.reduceLT, take_tmp, takK, look_hit, DV.roA, DV.ro, mk_put, tS_nil, w_seq, w_region, mk_clean, o_move, move_tmp, movK, Nat.reduceBEq, look_miss, o_fn, args_cons, rho_tmp, rho_const, constDV, args_nil, mk_H, env_cons, Nat.reduceEqDiff, if_false, if_true, dcl_some, List.all_cons, DV.flat, List.all_nil, Bool.and_self, List.map_cons, List.map_nil, true_and]
  refine capp12 10 s5 (by decide) (by decide) (by decide) (by decide) (by decide) (by decide) (by decide) fun H6 f6 s6 => ?_
  replace s6 : ShelfAt H6 (H.length + 2) H2.length (H.length + 1) [([120], [97, 98])] [([120], [97, 98, 99, 100]), ([121], [113])] [⟨2, [120], [99, 100]⟩, ⟨1, [121], [113]⟩] 20 := s6
  simp only [hold_app2, mk_called, Pos.isHp, List.filter_nil, mk_put?_some, dropLk, hold_app, tS_cons, g_none, o_assign, Nat.reduceLT, take_tmp, takK, look_hit, DV.roA, DV.ro, mk_put, tS_nil, w_seq, w_region, mk_clean, o_move, move_tmp, movK, Nat.reduceBEq, look_miss, o_fn, args_cons, rho_tmp, rho_const, constDV, args_nil, mk_H, env_cons, Nat.reduceEqDiff, if_false, if_true, dcl_some, List.all_cons, DV.flat, List.all_nil, Bool.and_self, List.map_cons, List.map_nil, true_and]
  refine capp14 14 s6 (by decide) (by decide) (by decide) (by decide) (by decide) (by decide) fun H7 f7 s7 => ?_
  replace s7 : ShelfAt H7 (H.length + 2) H2.length (H.length + 1) [([120], [97, 98])] [([120], [97, 98, 99, 100]), ([121], [113])] [⟨2, [120], [99, 100]⟩, ⟨1, [121], [113]⟩] 20 := s7
  simp only [hold_app2, mk_called, Pos.isHp, List.filter_nil, mk_put?_some, dropLk, hold_app, tS_cons, g_none, o_assign, Nat.reduceLT, take_tmp, takK, look_hit, DV.roA, DV.ro, mk_put, tS_nil, w_seq, w_region, mk_clean, o_move, move_tmp, movK, Nat.reduceBEq, look_miss, o_fn, args_cons, rho_tmp, rho_const, constDV, args_nil, mk_H, env_cons, Nat.reduceEqDiff, if_false, if_true, dcl_some, List.all_cons, DV.flat, List.all_nil, Bool.and_self, List.map_cons, List.map_nil, true_and]
  refine capp12 15 s7 (by decide) (by decide) (by decide) (by decide) (by decide) (by decide) (by decide) fun H8 f8 s8 => ?_
  replace s8 : ShelfAt H8 (H.length + 2) H2.length (H.length + 1) [([120], [97, 98])] [([120], [97, 98, 99, 100]), ([121], [113])] [⟨2, [120], [99, 100]⟩, ⟨1, [121], [113]⟩] 20 := s8
  simp only [hold_app2, mk_called, Pos.isHp, List.filter_nil, mk_put?_some, dropLk, hold_app, tS_cons, g_none, o_assign, Nat.reduceLT, take_tmp, takK, look_hit, DV.roA, DV.ro, mk_put, tS_nil, w_seq, w_region, mk_clean, o_move, move_tmp, movK, Nat.reduceBEq, look_miss, o_fn, args_cons, rho_tmp, args_nil, mk_H, env_cons, Nat.reduceEqDiff, if_false, if_true, dcl_some, List.all_cons, DV.flat, List.all_nil, Bool.and_self, List.map_cons, List.map_nil, true_and]
  refine capp30v 2 s8 rfl ?_
  simp only [hold_app2, mk_called, Pos.isHp, List.filter_nil, mk_put?_some, dropLk, hold_app, tS_cons, g_none, o_assign, Nat.reduceLT, take_tmp, takK, look_hit, DV.roA, DV.ro, mk_put, tS_nil, w_seq, w_region, mk_clean, o_move, move_tmp, movK, Nat.reduceBEq, look_miss, o_fn, args_cons, rho_tmp, args_nil, mk_H, env_cons, Nat.reduceEqDiff, if_false, if_true, dcl_some, List.all_cons, DV.flat, List.all_nil, Bool.and_self, List.map_cons, List.map_nil, true_and]
  refine capp26 s8 (by decide) fun H9 f9 g9 t9 => ?_
  have q8 := s8.lt
  have s9 := s8.fr f9 (by simp) (by simp) (by simp)
  simp only [hold_app2, mk_called, Pos.isHp, List.filter_nil, mk_put?_some, dropLk, hold_app, tS_cons, g_none, o_assign, Nat.reduceLT, take_tmp, takK, look_hit, DV.roA, DV.ro, mk_put, tS_nil, w_seq, w_region, mk_clean, o_move, move_tmp, movK, Nat.reduceBEq, look_miss, o_fn, args_cons, rho_tmp, rho_const, constDV, args_nil, mk_H, env_cons, Nat.reduceEqDiff, if_false, if_true, dcl_some, List.all_cons, DV.flat, List.all_nil, Bool.and_self, List.map_cons, List.map_nil, true_and]
  refine capp24 (x := 0) (y := 1) [([120], [97, 98, 99])] s9 (by decide) (by decide) (by decide) fun H10 f10 g10 s10 => ?_
  have t10 := t9.fr f10 (by simp; omega) (by simp; omega) (by simp; omega)
  simp only [hold_app2, mk_called, Pos.isHp, List.filter_nil, mk_put?_some, dropLk, hold_app, tS_nil, w_seq, w_region, mk_clean, tS_cons, g_none, o_move, Nat.reduceLT, move_tmp, movK, Nat.reduceBEq, look_miss, look_hit, DV.roA, DV.ro, o_fn, args_cons, rho_tmp, rho_const, constDV, args_nil, mk_H, env_cons, Nat.reduceEqDiff, if_false, if_true, dcl_some, List.all_cons, DV.flat, List.all_nil, Bool.and_self, List.map_cons, List.map_nil, true_and]
  refine capp27v [97, 98, 99] 0 s10 rfl rfl ?_
  simp only [hold_app2, mk_called, Pos.isHp, List.filter_nil, mk_put?_some, dropLk, hold_app, tS_cons, g_none, o_move, Nat.reduceLT, move_tmp, movK, look_hit, DV.roA, List.map_cons, DV.ro, List.map_nil, o_extract, rho_tmp, ex_0, ext_tmp, extK, Nat.reduceBEq, look_miss, ex_1, o_assign, take_tmp, takK, mk_put, tS_nil, w_seq, w_region, mk_clean, o_fn, args_cons, rho_const, constDV, args_nil, mk_H, env_cons, Nat.reduceEqDiff, if_false, if_true, dcl_some, List.all_cons, DV.flat, List.all_nil, Bool.and_self, true_and]
  refine capp24 (x := 9) (y := 9) [([120], [97, 98, 99, 100]), ([121], [113])] t10 (by decide) (by decide) (by decide) fun H11 f11 g11 t11 => ?_
  have q9 := s9.lt
  have q10 := s10.lt
  have s11 := s10.fr f11 (by simp; omega) (by simp; omega) (by simp; omega)
  simp only [hold_app2, mk_called, Pos.isHp, List.filter_nil, mk_put?_some, dropLk, hold_app, tS_nil, w_seq, w_region, mk_clean, tS_cons, g_none, o_move, Nat.reduceLT, move_tmp, movK, Nat.reduceBEq, look_miss, look_hit, DV.roA, DV.ro, o_bin, nil_int, Bool.false_eq_true, rho_tmp, rho_const, constDV, b_eql, decide_true, g_some, gq_succ, gq_zero, gs1_eq, gs2_tt, mk_setT, o_pick, pk, if_true, nil_str, s_eql, o_fn, args_cons, args_nil, mk_H, env_cons, Nat.reduceEqDiff, if_false, dcl_some, List.all_cons, DV.flat, List.all_nil, Bool.and_self, List.map_cons, List.map_nil, true_and]
  refine app31 s11 (by decide) (by decide) (by decide) ?_
  simp only [hold_app2, mk_called, Pos.isHp, List.filter_nil, mk_put?_some, dropLk, hold_app, tS_cons, g_some, gq_succ, gq_zero, Nat.reduceLT, gs1_eq, Nat.reduceBEq, look_miss, look_hit, gs2_tt, mk_setT, o_len, rho_tmp, dl45, namesF_lenD, List.length_cons, List.length_nil, Nat.zero_add, nc1, o_bin, nil_int, Bool.false_eq_true, rho_const, constDV, b_eql, decide_true, g_none, o_pick, pk, DV.roA, DV.ro, if_true, o_move, move_tmp, movK, o_fn, args_cons, args_nil, mk_H, env_cons, Nat.reduceEqDiff, if_false, dcl_some, List.all_cons, DV.flat, List.all_nil, Bool.and_self, List.map_cons, List.map_nil, true_and]
  refine app31 t11 (by decide) (by decide) (by decide) ?_
  simp only [hold_app2, mk_called, Pos.isHp, List.filter_nil, mk_put?_some, dropLk, hold_app, tS_cons, g_some, gq_succ, gq_zero, Nat.reduceLT, gs1_eq, Nat.reduceBEq, look_miss, look_hit, gs2_tt, mk_setT, o_len, rho_tmp, dl45, namesF_lenD, List.length_cons, List.length_nil, Nat.zero_add, Nat.reduceAdd, nc2, o_bin, nil_int, Bool.false_eq_true, rho_const, constDV, b_eql, decide_true, g_none, o_pick, pk, DV.roA, DV.ro, if_true, o_move, move_tmp, movK, o_fn, args_cons, args_nil, mk_H, env_cons, Nat.reduceEqDiff, if_false, dcl_some, List.all_cons, DV.flat, List.all_nil, Bool.and_self, List.map_cons, List.map_nil, true_and]
  refine capp32v 3 s11 (by decide) rfl ?_
  simp only [hold_app2, mk_called, Pos.isHp, List.filter_nil, mk_put?_some, dropLk, hold_app, tS_cons, g_some, gq_succ, gq_zero, Nat.reduceLT, gs1_eq, Nat.reduceBEq, look_miss, look_hit, gs2_tt, mk_setT, o_bin, nil_int, Bool.false_eq_true, rho_tmp, rho_const, constDV, b_eql, decide_true, g_none, o_pick, pk, DV.roA, DV.ro, if_true, o_move, move_tmp, movK, o_fn, args_cons, args_nil, mk_H, env_cons, Nat.reduceEqDiff, if_false, dcl_some, List.all_cons, DV.flat, List.all_nil, Bool.and_self, List.map_cons, List.map_nil, true_and]
  refine capp33v 17 s11 (by decide) (by decide) (by decide) rfl ?_
  simp only [hold_app2, mk_called, Pos.isHp, List.filter_nil, mk_put?_some, dropLk, hold_app, tS_cons, g_some, gq_succ, gq_zero, Nat.reduceLT, gs1_eq, Nat.reduceBEq, look_miss, look_hit, gs2_tt, mk_setT, o_bin, nil_int, Bool.false_eq_true, rho_tmp, rho_const, constDV, b_eql, decide_true, g_none, o_pick, pk, DV.roA, DV.ro, if_true, o_move, move_tmp, movK, o_fn, args_cons, args_nil, mk_H, env_cons, Nat.reduceEqDiff, if_false, dcl_some, List.all_cons, DV.flat, List.all_nil, Bool.and_self, List.map_cons, List.map_nil, true_and]
  refine capp30v 0 s11 rfl ?_
  simp only [hold_app2, mk_called, Pos.isHp, List.filter_nil, mk_put?_some, dropLk, hold_app, tS_cons, g_some, gq_succ, gq_zero, Nat.reduceLT, gs1_eq, Nat.reduceBEq, look_miss, look_hit, gs2_tt, mk_setT, o_bin, nil_int, Bool.false_eq_true, rho_tmp, rho_const, constDV, b_eql, decide_true, g_none, o_pick, pk, DV.roA, DV.ro, if_true, o_move, move_tmp, movK, o_fn, args_cons, args_nil, mk_H, env_cons, Nat.reduceEqDiff, if_false, dcl_some, List.all_cons, DV.flat, List.all_nil, Bool.and_self, List.map_cons, List.map_nil, true_and]
  refine capp16 0 s11 (by decide) (by decide) (by decide) (by decide) fun H12 f12 s12 => ?_
  replace s12 : ShelfAt H12 (H.length + 2) H2.length H9.length [([120], [97, 98, 99])] [([118], [97, 98, 99])] [⟨3, [120], [118]⟩] 20 := s12
  simp only [hold_app2, mk_called, Pos.isHp, List.filter_nil, mk_put?_some, dropLk, hold_app, tS_cons, g_some, gq_succ, gq_zero, Nat.reduceLT, gs1_eq, Nat.reduceBEq, look_miss, look_hit, gs2_tt, mk_setT, o_bin, nil_int, Bool.false_eq_true, rho_tmp, rho_const, constDV, b_eql, decide_true, g_none, o_pick, pk, DV.roA, DV.ro, if_true, o_move, move_tmp, movK, o_fn, args_cons, args_nil, mk_H, env_cons, Nat.reduceEqDiff, if_false, dcl_some, List.all_cons, DV.flat, List.all_nil, Bool.and_self, List.map_cons, List.map_nil, true_and]
  refine capp18 0 s12 (by decide) (by decide) (by decide) fun H13 f13 s13 => ?_
  simp only [hold_app2, mk_called, Pos.isHp, List.filter_nil, mk_put?_some, dropLk, hold_app, tS_cons, g_some, gq_succ, gq_zero, Nat.reduceLT, gs1_eq, Nat.reduceBEq, look_miss, look_hit, gs2_tt, mk_setT, o_bin, nil_int, Bool.false_eq_true, rho_tmp, rho_const, constDV, b_eql, decide_true, g_none, o_pick, pk, DV.roA, DV.ro, if_true, o_assign, take_tmp, takK, mk_put, tS_nil, w_ret, ret_one, DV.flat, true_and, if_false]
  refine hK _ ((((((((((((f1.trans f2).trans f3).trans f4).trans f5).trans f6).trans f7).trans f8).trans f9).trans f10).trans f11).trans f12 |>.trans f13).mono ?_)
  have l2 := f2.1
  have l3 := f3.1
  have l4 := f4.1
  have l5 := f5.1
  have l6 := f6.1
  have l7 := f7.1
  have l8 := f8.1
  have l9 := f9.1
  intro j hj hm
  simp only [List.mem_append, List.mem_cons, List.not_mem_nil, or_false, false_or] at hm
  omega
theorem cv53 {st : St} {k : IntKind} {n : Int} {K : DV → Prop} : dconv pp st 5 3 (.int k n) K = K (.int .i64 (IntKind.i64.wrap n)) := by simp [dconv, Go.Proofs.Try.underlying5, Go.Proofs.Try.underlying3]
theorem b_rem {xt : TypeId} {k : IntKind} {a b : Int} {K : DV → Prop} : dbin pp .rem xt (.int k a) (.int k b) K = (b ≠ 0 ∧ K (.int k (a.tmod b))) := by simp [dbin]
theorem putC_ok {now : Files} {room : Int} {nm b : Str} (h1 : namedF nm = true) (h2 : getF now nm = none) (h3 : now.length < 60) (h4 : (b.length : Int) ≤ room - usedF now) : putC now room nm b = 0 := by
  simp [putC, h1, h2]
  omega
/-- The law's answer. -/
def KT : List HObj → DV → Prop := fun _ dv => dv = .bool true
end Go.Ab.Sh
