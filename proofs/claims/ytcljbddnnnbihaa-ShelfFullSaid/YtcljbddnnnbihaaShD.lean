/- A part of the proofs that a law function returns true at every input; it has no condition of its own. -/
import Derived.Test.YtcljbddnnnbihaaShC
set_option linter.unusedSimpArgs false
set_option linter.unusedVariables false
/- ShD: The shelf's methods, on. -/
namespace Go.Ab.Sh
open Go Go.Conc Go.RowKit Go.Ab
set_option maxRecDepth 10000
def addC (now : Files) (room : Int) (nm b : Str) : Int :=
  if (getF now nm).isSome = false then 14 else if max (room - usedF now) 0 < b.length then 15 else 0
theorem getF_used (nm : Str) : ∀ fs, ((getF fs nm).getD []).length ≤ usedF fs
  | [] => by simp [getF]
  | (x, v) :: r => by
    have := getF_used nm r
    simp only [getF, usedF]
    split
    · simp
    · omega
noncomputable def b14 : Code := (Go.Proofs.Try.f14.body).getD .skip
theorem hb14 : Go.Proofs.Try.f14.body = some b14 := by kernel_rfl
/-- Add. -/
def S14 : Spec := fun H args K => ∃ id k n kept now acts room nm b, args = [.ptr id 0, .str nm, .str b] ∧ ShelfAt H id k n kept now acts room ∧ usedF now < 4611686018427387904 ∧ 0 ≤ room ∧ room < 4611686018427387904 ∧ acts.length < 100000 ∧ b.length < 4611686018427387904 ∧
  K (if addC now room nm b = 0 then doneH H id k n now acts room ⟨2, nm, b⟩ else H) (.int .i64 (addC now room nm b))
theorem rc14 {I : Jd pp} (hI : ∀ w e, I.Ok w e) (h33 : RC I 33 S33) : RC I 14 S14 := by
  refine rc_of_code (isObj := isO) (Γ := envOf [(35, S35), (33, S33), (36, S36)]) (rs := [6]) mixed hI (envOf_rc (by simpa using ⟨rc35 hI, h33, rc36 hI⟩)) Go.Proofs.Try.func14 (by kernel_rfl) hb14 Go.Proofs.Try.results14 Go.Proofs.Try.ntmps14 (by decide) ?_
  rintro H args K ⟨id, k, n, kept, now, acts, room, nm, b, rfl, hs, h5, h6, h7, h8, h10, hK⟩
  refine ⟨by simp, rfl, ?_⟩
  unfold b14 Go.Proofs.Try.f14
  simp only [Option.getD_some, argSlots, DV.ro, Nat.zero_add, Nat.reduceAdd, w_seq, w_region, mk_clean, tS_cons, g_none, hold_app, o_assign, take_const, constDV, mk_put, dropLk, tS_nil, hold_app2, w_block, o_move, Nat.reduceLT, move_tmp, movK, Nat.reduceBEq, look_miss, look_hit, DV.roA, o_fn, args_cons, rho_tmp, args_nil, mk_H, env_cons, Nat.reduceEqDiff, if_false, if_true, dcl_some, List.all_cons, DV.flat, List.all_nil, Bool.and_self, List.map_cons, List.map_nil, true_and]
  refine app35 hs ?_
  simp only [hold_app2, mk_called, Pos.isHp, List.filter_nil, mk_put?_some, dropLk, hold_app, tS_cons, g_none, o_un, Nat.reduceLT, rho_tmp, look_hit, u_not, o_assign, take_tmp, takK, DV.roA, DV.ro, mk_put, tS_nil, w_cond, cd, Bool.not_eq_true', w_seq, w_region, mk_clean, take_const, constDV, w_ret, ret_one, DV.flat, true_and, Bool.not_eq_false', o_move, move_tmp, movK, Nat.reduceBEq, look_miss, o_len, dl9, o_fn, args_cons, args_nil, mk_H, env_cons, Nat.reduceEqDiff, if_false, if_true, dcl_some, List.all_cons, List.all_nil, Bool.and_self, List.map_cons, List.map_nil]
  refine ⟨fun e2 => by simpa [addC, e2] using hK, fun e2 => ?_⟩
  refine app33 hs h5 h6 h7 ?_
  simp only [hold_app2, mk_called, Pos.isHp, List.filter_nil, mk_put?_some, dropLk, hold_app, tS_cons, g_none, o_bin, nil_tmp, Bool.false_eq_true, Nat.reduceLT, rho_tmp, Nat.reduceBEq, look_miss, look_hit, b_gtr, o_assign, take_tmp, takK, DV.roA, DV.ro, mk_put, tS_nil, w_cond, cd, decide_eq_true_eq, w_seq, w_region, mk_clean, take_const, constDV, w_ret, ret_one, DV.flat, true_and, decide_eq_false_iff_not, w_skip, o_move, move_tmp, movK, bd65, bd65_0, bdk_eq, DV.cells, List.length_cons, List.length_nil, Nat.zero_add, Nat.reduceAdd, Nat.reduceLeDiff, List.all_cons, DV.scalar, List.all_nil, Bool.and_self, putAt_eq, List.take_zero, List.nil_append, List.drop_succ_cons, List.drop_zero, List.cons_append, bd65_1, List.take_succ_cons, bd65_2, List.drop_nil, List.append_nil, bd_nil, o_fn, args_cons, args_nil, mk_H, env_cons, Nat.reduceEqDiff, if_true, if_false, dcl_some, List.map_cons, DV.ro1, List.map_nil]
  refine ⟨fun e4 => ?_, fun e4 => ?_⟩
  · have e5 : addC now room nm b = 15 := by simp only [addC, e2]; simp; omega
    simpa [e5] using hK
  · have e5 : addC now room nm b = 0 := by simp only [addC, e2]; simp; omega
    have hlen : ((getF now nm).getD []).length + b.length ≤ 9223372036854775807 := by
      have := getF_used nm now; omega
    refine app36 ⟨2, nm, b⟩ hs hlen h8 ?_
    simp only [hold_app2, mk_called, Pos.isHp, List.filter_nil, mk_put?_some, dropLk, hold_app, tS_cons, g_none, o_assign, Nat.reduceLT, take_tmp, takK, look_hit, DV.roA, DV.ro, mk_put, tS_nil, w_ret, ret_one, DV.flat, true_and]
    simpa [e5] using hK
noncomputable def b16 : Code := (Go.Proofs.Try.f16.body).getD .skip
theorem hb16 : Go.Proofs.Try.f16.body = some b16 := by kernel_rfl
def swapC (now : Files) (old nm : Str) : Int := if namedF nm = false then 10 else if (getF now old).isSome = false then 14 else 0
/-- Swap. -/
def S16 : Spec := fun H args K => ∃ id k n kept now acts room old nm, args = [.ptr id 0, .str old, .str nm] ∧ ShelfAt H id k n kept now acts room ∧ usedF now < 4611686018427387904 ∧ acts.length < 100000 ∧ nm.length < 4611686018427387904 ∧
  K (if swapC now old nm = 0 then doneH H id k n now acts room ⟨3, old, nm⟩ else H) (.int .i64 (swapC now old nm))
theorem rc16 {I : Jd pp} (hI : ∀ w e, I.Ok w e) : RC I 16 S16 := by
  refine rc_of_code (isObj := isO) (Γ := envOf [(34, S34), (35, S35), (36, S36)]) (rs := [6]) mixed hI (envOf_rc (by simpa using ⟨rc34 hI, rc35 hI, rc36 hI⟩)) Go.Proofs.Try.func16 (by kernel_rfl) hb16 Go.Proofs.Try.results16 Go.Proofs.Try.ntmps16 (by decide) ?_
  rintro H args K ⟨id, k, n, kept, now, acts, room, old, nm, rfl, hs, h5, h8, h10, hK⟩
  refine ⟨by simp, rfl, ?_⟩
  unfold b16 Go.Proofs.Try.f16
  simp only [Option.getD_some, argSlots, DV.ro, Nat.zero_add, Nat.reduceAdd, w_seq, w_region, mk_clean, tS_cons, g_none, hold_app, o_assign, take_const, constDV, mk_put, dropLk, tS_nil, hold_app2, w_block, o_move, Nat.reduceLT, move_tmp, movK, Nat.reduceBEq, look_miss, look_hit, DV.roA, o_fn, args_cons, rho_tmp, args_nil, mk_H, env_cons, Nat.reduceEqDiff, if_false, if_true, dcl_some, List.all_cons, DV.flat, List.all_nil, Bool.and_self, List.map_cons, List.map_nil, true_and]
  refine app34 h10 ?_
  simp only [hold_app2, mk_called, Pos.isHp, List.filter_nil, mk_put?_some, dropLk, hold_app, tS_cons, g_none, o_un, Nat.reduceLT, rho_tmp, look_hit, u_not, o_assign, take_tmp, takK, DV.roA, DV.ro, mk_put, tS_nil, w_cond, cd, Bool.not_eq_true', w_seq, w_region, mk_clean, take_const, constDV, w_ret, ret_one, DV.flat, true_and, Bool.not_eq_false', o_move, move_tmp, movK, Nat.reduceBEq, look_miss, o_fn, args_cons, args_nil, mk_H, env_cons, Nat.reduceEqDiff, if_false, if_true, dcl_some, List.all_cons, List.all_nil, Bool.and_self, List.map_cons, List.map_nil]
  refine ⟨fun e => by simpa [swapC, e] using hK, fun e1 => ?_⟩
  refine app35 hs ?_
  simp only [hold_app2, mk_called, Pos.isHp, List.filter_nil, mk_put?_some, dropLk, hold_app, tS_cons, g_none, o_un, Nat.reduceLT, rho_tmp, look_hit, u_not, o_assign, take_tmp, takK, DV.roA, DV.ro, mk_put, tS_nil, w_cond, cd, Bool.not_eq_true', w_seq, w_region, mk_clean, take_const, constDV, w_ret, ret_one, DV.flat, true_and, Bool.not_eq_false', w_skip, o_move, move_tmp, movK, Nat.reduceBEq, look_miss, bd65, bd65_0, bdk_eq, DV.cells, List.length_cons, List.length_nil, Nat.zero_add, Nat.reduceAdd, Nat.reduceLeDiff, List.all_cons, DV.scalar, List.all_nil, Bool.and_self, putAt_eq, List.take_zero, List.nil_append, List.drop_succ_cons, List.drop_zero, List.cons_append, bd65_1, List.take_succ_cons, bd65_2, List.drop_nil, List.append_nil, bd_nil, o_fn, args_cons, args_nil, mk_H, env_cons, Nat.reduceEqDiff, if_true, if_false, dcl_some, List.map_cons, DV.ro1, List.map_nil]
  refine ⟨fun e2 => by simpa [swapC, e1, e2] using hK, fun e2 => ?_⟩
  have hlen : ((getF now old).getD []).length + nm.length ≤ 9223372036854775807 := by
    have := getF_used old now; omega
  refine app36 ⟨3, old, nm⟩ hs hlen h8 ?_
  simp only [hold_app2, mk_called, Pos.isHp, List.filter_nil, mk_put?_some, dropLk, hold_app, tS_cons, g_none, o_assign, Nat.reduceLT, take_tmp, takK, look_hit, DV.roA, DV.ro, mk_put, tS_nil, w_ret, ret_one, DV.flat, true_and]
  simpa [swapC, e1, e2] using hK
noncomputable def b18 : Code := (Go.Proofs.Try.f18.body).getD .skip
theorem hb18 : Go.Proofs.Try.f18.body = some b18 := by kernel_rfl
def dropC (now : Files) (nm : Str) : Int := if (getF now nm).isSome = false then 14 else 0
/-- Drop. -/
def S18 : Spec := fun H args K => ∃ id k n kept now acts room nm, args = [.ptr id 0, .str nm] ∧ ShelfAt H id k n kept now acts room ∧ usedF now < 4611686018427387904 ∧ acts.length < 100000 ∧
  K (if dropC now nm = 0 then doneH H id k n now acts room ⟨4, nm, []⟩ else H) (.int .i64 (dropC now nm))
theorem rc18 {I : Jd pp} (hI : ∀ w e, I.Ok w e) : RC I 18 S18 := by
  refine rc_of_code (isObj := isO) (Γ := envOf [(35, S35), (36, S36)]) (rs := [4]) mixed hI (envOf_rc (by simpa using ⟨rc35 hI, rc36 hI⟩)) Go.Proofs.Try.func18 (by kernel_rfl) hb18 Go.Proofs.Try.results18 Go.Proofs.Try.ntmps18 (by decide) ?_
  rintro H args K ⟨id, k, n, kept, now, acts, room, nm, rfl, hs, h5, h8, hK⟩
  refine ⟨by simp, rfl, ?_⟩
  unfold b18 Go.Proofs.Try.f18
  simp only [Option.getD_some, argSlots, DV.ro, Nat.zero_add, w_seq, w_region, mk_clean, tS_cons, g_none, hold_app, o_assign, take_const, constDV, mk_put, dropLk, tS_nil, hold_app2, o_move, Nat.reduceLT, move_tmp, movK, Nat.reduceBEq, look_miss, look_hit, DV.roA, o_fn, args_cons, rho_tmp, args_nil, mk_H, env_cons, Nat.reduceEqDiff, if_false, if_true, dcl_some, List.all_cons, DV.flat, List.all_nil, Bool.and_self, List.map_cons, List.map_nil, true_and]
  refine app35 hs ?_
  simp only [hold_app2, mk_called, Pos.isHp, List.filter_nil, mk_put?_some, dropLk, hold_app, tS_cons, g_none, o_un, Nat.reduceLT, rho_tmp, look_hit, u_not, tS_nil, w_cond, cd, Bool.not_eq_true', w_seq, w_region, mk_clean, o_assign, take_const, constDV, mk_put, w_ret, ret_one, DV.flat, true_and, Bool.not_eq_false', w_skip, o_move, move_tmp, movK, Nat.reduceBEq, look_miss, DV.roA, DV.ro, bd65, bd65_0, bdk_eq, DV.cells, List.length_cons, List.length_nil, Nat.zero_add, Nat.reduceAdd, Nat.reduceLeDiff, List.all_cons, DV.scalar, List.all_nil, Bool.and_self, putAt_eq, List.take_zero, List.nil_append, List.drop_succ_cons, List.drop_zero, List.cons_append, bd65_1, take_tmp, takK, List.take_succ_cons, bd_nil, o_fn, args_cons, args_nil, mk_H, env_cons, Nat.reduceEqDiff, if_true, if_false, dcl_some, List.map_cons, DV.ro1, List.map_nil]
  refine ⟨fun e2 => by simpa [dropC, e2] using hK, fun e2 => ?_⟩
  have hlen : ((getF now nm).getD []).length + ([] : Str).length ≤ 9223372036854775807 := by
    have := getF_used nm now; simp; omega
  refine app36 ⟨4, nm, []⟩ hs hlen h8 ?_
  simp only [hold_app2, mk_called, Pos.isHp, List.filter_nil, mk_put?_some, dropLk, hold_app, tS_cons, g_none, o_assign, Nat.reduceLT, take_tmp, takK, look_hit, DV.roA, DV.ro, mk_put, tS_nil, w_ret, ret_one, DV.flat, true_and]
  simpa [dropC, e2] using hK

noncomputable def b22 : Code := (Go.Proofs.Try.f22.body).getD .skip
theorem hb22 : Go.Proofs.Try.f22.body = some b22 := by kernel_rfl
/-- Room. -/
def S22 : Spec := fun H args K => ∃ id k n kept now acts room v, args = [.ptr id 0, .int .i64 v] ∧ ShelfAt H id k n kept now acts room ∧ K (H.set id (.cells (shelfC k n acts (min (max v 0) 1000000)))) (.tup [])
theorem rc22 {I : Jd pp} (hI : ∀ w e, I.Ok w e) : RC I 22 S22 := by
  refine rc_of_code (isObj := isO) (Γ := envOf []) (rs := []) mixed hI (envOf_rc (by simp)) Go.Proofs.Try.func22 (by kernel_rfl) hb22 Go.Proofs.Try.results22 Go.Proofs.Try.ntmps22 (by decide) ?_
  rintro H args K ⟨id, k, n, kept, now, acts, room, v, rfl, hs, hK⟩
  have h1 := hs.1
  refine ⟨by simp, rfl, ?_⟩
  unfold b22 Go.Proofs.Try.f22
  simp only [Option.getD_some, argSlots, DV.ro, Nat.zero_add, w_region, mk_clean, tS_cons, g_none, hold_app, o_move, Nat.reduceLT, move_tmp, movK, look_hit, DV.roA, dropLk, Nat.reduceBEq, look_miss, o_max, rho_tmp, rho_const, constDV, m_max, mk_put?_some, o_min, m_min, o_nilCheck, dnil, o_fieldAddr, fp57_3, o_store, take_tmp, takK, st_h, h1, shelfC, sth_some, us3, DV.cells, List.length_cons, List.length_nil, cn3, List.all_cons, DV.scalar, List.all_nil, Bool.and_self, Nat.reduceAdd, Nat.reduceLeDiff, putAt_eq, List.take_succ_cons, List.take_zero, List.cons_append, List.nil_append, List.drop_succ_cons, List.drop_nil, List.append_nil, mk_setH, Pos.inHp, List.filter_nil, tS_nil, hold_app2, ret_none', true_and]
  have e : (if 1000000 < if v < 0 then 0 else v then 1000000 else if v < 0 then 0 else v) = min (max v 0) 1000000 := by split <;> split <;> omega
  rw [e]
  exact hK
noncomputable def b30 : Code := (Go.Proofs.Try.f30.body).getD .skip
theorem hb30 : Go.Proofs.Try.f30.body = some b30 := by kernel_rfl
/-- Loose. -/
def S30 : Spec := fun H args K => ∃ id k n kept now acts room, args = [.ptr id 0] ∧ ShelfAt H id k n kept now acts room ∧ K H (.int .i64 acts.length)
theorem rc30 {I : Jd pp} (hI : ∀ w e, I.Ok w e) : RC I 30 S30 := by
  refine rc_of_code (isObj := isO) (Γ := envOf []) (rs := [2]) mixed hI (envOf_rc (by simp)) Go.Proofs.Try.func30 (by kernel_rfl) hb30 Go.Proofs.Try.results30 Go.Proofs.Try.ntmps30 (by decide) ?_
  rintro H args K ⟨id, k, n, kept, now, acts, room, rfl, hs, hK⟩
  have h1 := hs.1
  refine ⟨by simp, rfl, ?_⟩
  unfold b30 Go.Proofs.Try.f30
  simp only [Option.getD_some, argSlots, DV.ro, w_seq, w_region, mk_clean, tS_cons, g_none, hold_app, o_assign, take_const, constDV, mk_put, dropLk, tS_nil, hold_app2, o_move, Nat.reduceLT, move_tmp, movK, Nat.reduceBEq, look_miss, look_hit, DV.roA, o_nilCheck, dnil, rho_tmp, mk_put?_some, o_fieldAddr, fp57_2, Nat.zero_add, o_load, ld_h, h1, shelfC, dlh_some, List.drop_succ_cons, List.drop_zero, la55, lo_sl, addrPos, ia55, Bool.false_eq_true, if_false, o_len, dl55, Pos.atSlot, Bool.or_false, take_tmp, takK, w_ret, ret_one, DV.flat, true_and]
  simpa using hK
noncomputable def b27 : Code := (Go.Proofs.Try.f27.body).getD .skip
theorem hb27 : Go.Proofs.Try.f27.body = some b27 := by kernel_rfl
/-- Get. -/
def S27 : Spec := fun H args K => ∃ id k n kept now acts room nm, args = [.ptr id 0, .str nm] ∧ ShelfAt H id k n kept now acts room ∧ K H (.tup [.str ((getF now nm).getD []), .int .i64 (if (getF now nm).isSome then 0 else 14)])
theorem rc27 {I : Jd pp} (hI : ∀ w e, I.Ok w e) : RC I 27 S27 := by
  refine rc_of_code (isObj := isO) (Γ := envOf [(35, S35)]) (rs := [4, 5]) mixed hI (envOf_rc (by simpa using rc35 hI)) Go.Proofs.Try.func27 (by kernel_rfl) hb27 Go.Proofs.Try.results27 Go.Proofs.Try.ntmps27 (by decide) ?_
  rintro H args K ⟨id, k, n, kept, now, acts, room, nm, rfl, hs, hK⟩
  have h1 := hs.1
  have h3 := hs.2.2.1
  refine ⟨by simp, rfl, ?_⟩
  unfold b27 Go.Proofs.Try.f27
  simp only [Option.getD_some, argSlots, DV.ro, Nat.zero_add, w_seq, w_region, mk_clean, tS_cons, g_none, hold_app, o_assign, take_const, constDV, mk_put, dropLk, tS_nil, hold_app2, o_move, Nat.reduceLT, move_tmp, movK, Nat.reduceBEq, look_miss, look_hit, DV.roA, o_fn, args_cons, rho_tmp, args_nil, mk_H, env_cons, if_true, dcl_some, List.all_cons, DV.flat, List.all_nil, Bool.and_self, List.map_cons, List.map_nil, true_and]
  refine app35 hs ?_
  simp only [hold_app2, mk_called, Pos.isHp, List.filter_nil, mk_put?_some, dropLk, hold_app, tS_cons, g_none, o_un, Nat.reduceLT, rho_tmp, look_hit, u_not, tS_nil, w_cond, cd, Bool.not_eq_true', w_seq, w_region, mk_clean, o_assign, take_const, constDV, mk_put, w_ret, ret_two, DV.flat, Nat.reduceBEq, look_miss, and_true, true_and, Bool.not_eq_false', w_skip, o_move, move_tmp, movK, DV.roA, DV.ro, o_nilCheck, dnil, o_fieldAddr, fp57_1, Nat.zero_add, o_load, ld_h, h1, shelfC, dlh_some, List.drop_succ_cons, List.drop_zero, la54, lo_map, o_lookup, DV.plain, lk_h Go.Proofs.Try.underlying54, h3, kt9, onMap_some, find_enc, lf9', take_tmp, takK]
  refine ⟨fun e => ?_, fun e => ?_⟩
  · cases h : getF now nm with
    | none => simpa [h] using hK
    | some v => simp [h] at e
  · simpa [e] using hK
/-- maps.Clone. -/
def S41 : Spec := fun H args K => ∃ m es, args = [.map m] ∧ H[m]? = some (.map es) ∧ K (H ++ [HObj.map es]) (.map H.length)
theorem app41 {H : List HObj} {K : List HObj → DV → Prop} {m : Nat} {es : List (DV × DV)} (h1 : H[m]? = some (.map es)) (h : K (H ++ [HObj.map es]) (.map H.length)) : app S41 H [.map m] K := ⟨m, es, rfl, h1, h⟩
noncomputable def b20 : Code := (Go.Proofs.Try.f20.body).getD .skip
theorem hb20 : Go.Proofs.Try.f20.body = some b20 := by kernel_rfl
/-- Keep. -/
def S20 : Spec := fun H args K => ∃ id k n kept now acts room, args = [.ptr id 0] ∧ ShelfAt H id k n kept now acts room ∧ K ((H ++ [HObj.map (enc now)]).set id (.cells (shelfC H.length n [] room))) (.tup [])
theorem rc20 {I : Jd pp} (hI : ∀ w e, I.Ok w e) (h41 : RC I 41 S41) : RC I 20 S20 := by
  refine rc_of_code (isObj := isO) (Γ := envOf [(41, S41)]) (rs := []) mixed hI (envOf_rc (by simpa using h41)) Go.Proofs.Try.func20 (by kernel_rfl) hb20 Go.Proofs.Try.results20 Go.Proofs.Try.ntmps20 (by decide) ?_
  rintro H args K ⟨id, k, n, kept, now, acts, room, rfl, hs, hK⟩
  have h1 := hs.1
  have h3 := hs.2.2.1
  have hid : id < H.length := (List.getElem?_eq_some_iff.1 h1).1
  have h1' : (H ++ [HObj.map (enc now)])[id]? = some (.cells (shelfC k n acts room)) := by rw [List.getElem?_append_left hid]; exact h1
  refine ⟨by simp, rfl, ?_⟩
  unfold b20 Go.Proofs.Try.f20
  simp only [Option.getD_some, argSlots, DV.ro, w_region, mk_clean, tS_cons, g_none, hold_app, o_move, Nat.reduceLT, move_tmp, movK, look_hit, DV.roA, dropLk, Nat.reduceBEq, look_miss, o_nilCheck, dnil, rho_tmp, mk_put?_some, o_fieldAddr, fp57_1, Nat.zero_add, o_load, ld_h, h1, shelfC, dlh_some, List.drop_succ_cons, List.drop_zero, la54, lo_map, o_fn, args_cons, args_nil, mk_H, env_cons, if_true, dcl_some, List.all_cons, DV.flat, List.all_nil, Bool.and_self, List.map_cons, List.map_nil, true_and]
  refine app41 h3 ?_
  simp only [hold_app2, mk_called, Pos.isHp, List.filter_nil, mk_put?_some, dropLk, hold_app, tS_cons, g_none, o_nilCheck, dnil, Nat.reduceLT, rho_tmp, Nat.reduceBEq, look_miss, look_hit, o_fieldAddr, fp57_0, Nat.add_zero, o_store, take_tmp, takK, DV.roA, DV.ro, st_h, h1', shelfC, sth_some, us54, DV.cells, List.length_cons, List.length_nil, Nat.zero_add, cn54, List.all_cons, DV.scalar, List.all_nil, Bool.and_self, Nat.reduceAdd, Nat.reduceLeDiff, putAt_eq, List.take_zero, List.nil_append, List.drop_succ_cons, List.drop_zero, List.cons_append, mk_setH, Pos.inHp, fp57_2, take_const, constDV, Proofs.Try.underlying55, cn65, List.getElem?_set_self', Option.map_eq_map, Option.map_some, Function.const_apply, Option.isSome_some, cn55, List.take_succ_cons, List.set_set, tS_nil, ret_none', true_and]
  simpa [shelfC] using hK
end Go.Ab.Sh
