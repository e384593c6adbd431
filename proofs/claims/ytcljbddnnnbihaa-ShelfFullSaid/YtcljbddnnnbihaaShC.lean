/- A part of the proofs that a law function returns true at every input; it has no condition of its own. -/
import Derived.Test.YtcljbddnnnbihaaShB
set_option linter.unusedSimpArgs false
set_option linter.unusedVariables false
/- ShC: The shelf's methods. -/
namespace Go.Ab.Sh
open Go Go.Conc Go.RowKit Go.Ab
set_option maxRecDepth 10000
def usedF : Files → Nat
  | [] => 0
  | (_, v) :: r => v.length + usedF r
/-- files.used. -/
def S48 : Spec := fun H args K => ∃ m fs, args = [.map m] ∧ H[m]? = some (.map (enc fs)) ∧ usedF fs < 4611686018427387904 ∧ K H (.int .i64 (usedF fs))
theorem app48 {H : List HObj} {K : List HObj → DV → Prop} {m : Nat} (fs : Files) (h1 : H[m]? = some (.map (enc fs))) (h2 : usedF fs < 4611686018427387904) (h : K H (.int .i64 (usedF fs))) : app S48 H [.map m] K := ⟨m, fs, rfl, h1, h2, h⟩

noncomputable def b32 : Code := (Go.Proofs.Try.f32.body).getD .skip
theorem hb32 : Go.Proofs.Try.f32.body = some b32 := by kernel_rfl
/-- Used. -/
def S32 : Spec := fun H args K => ∃ id k n kept now acts room, args = [.ptr id 0] ∧ ShelfAt H id k n kept now acts room ∧ usedF now < 4611686018427387904 ∧ K H (.int .i64 (usedF now))
theorem app32 {H : List HObj} {K : List HObj → DV → Prop} {id k n : Nat} {kept now : Files} {acts : List Act} {room : Int} (h1 : ShelfAt H id k n kept now acts room) (h2 : usedF now < 4611686018427387904) (h : K H (.int .i64 (usedF now))) : app S32 H [.ptr id 0] K := ⟨id, k, n, kept, now, acts, room, rfl, h1, h2, h⟩
theorem rc32 {I : Jd pp} (hI : ∀ w e, I.Ok w e) (h48 : RC I 48 S48) : RC I 32 S32 := by
  refine rc_of_code (isObj := isO) (Γ := envOf [(48, S48)]) (rs := [2]) mixed hI (envOf_rc (by simpa using h48)) Go.Proofs.Try.func32 (by kernel_rfl) hb32 Go.Proofs.Try.results32 Go.Proofs.Try.ntmps32 (by decide) ?_
  rintro H args K ⟨id, k, n, kept, now, acts, room, rfl, ⟨h1, h2, h3, h4⟩, h5, hK⟩
  refine ⟨by simp, rfl, ?_⟩
  unfold b32 Go.Proofs.Try.f32
  simp only [Option.getD_some, argSlots, DV.ro, w_seq, w_region, mk_clean, tS_cons, g_none, hold_app, o_assign, take_const, constDV, mk_put, dropLk, tS_nil, hold_app2, o_move, Nat.reduceLT, move_tmp, movK, Nat.reduceBEq, look_miss, look_hit, DV.roA, o_nilCheck, dnil, rho_tmp, mk_put?_some, o_fieldAddr, fp57_1, Nat.zero_add, o_load, ld_h, h1, shelfC, dlh_some, List.drop_succ_cons, List.drop_zero, la54, lo_map, o_fn, args_cons, args_nil, mk_H, env_cons, if_true, dcl_some, List.all_cons, DV.flat, List.all_nil, Bool.and_self, List.map_cons, List.map_nil, true_and]
  refine app48 now h3 h5 ?_
  simp only [hold_app2, mk_called, Pos.isHp, List.filter_nil, mk_put?_some, dropLk, hold_app, tS_cons, g_none, o_assign, Nat.reduceLT, take_tmp, takK, look_hit, DV.roA, DV.ro, mk_put, tS_nil, w_ret, ret_one, DV.flat, true_and]
  exact hK

noncomputable def b33 : Code := (Go.Proofs.Try.f33.body).getD .skip
theorem hb33 : Go.Proofs.Try.f33.body = some b33 := by kernel_rfl
/-- Left. -/
def S33 : Spec := fun H args K => ∃ id k n kept now acts room, args = [.ptr id 0] ∧ ShelfAt H id k n kept now acts room ∧ usedF now < 4611686018427387904 ∧ 0 ≤ room ∧ room < 4611686018427387904 ∧ K H (.int .i64 (max (room - usedF now) 0))
theorem app33 {H : List HObj} {K : List HObj → DV → Prop} {id k n : Nat} {kept now : Files} {acts : List Act} {room : Int} (h1 : ShelfAt H id k n kept now acts room) (h2 : usedF now < 4611686018427387904) (h3 : 0 ≤ room) (h4 : room < 4611686018427387904) (h : K H (.int .i64 (max (room - usedF now) 0))) : app S33 H [.ptr id 0] K := ⟨id, k, n, kept, now, acts, room, rfl, h1, h2, h3, h4, h⟩
theorem rc33 {I : Jd pp} (hI : ∀ w e, I.Ok w e) (h32 : RC I 32 S32) : RC I 33 S33 := by
  refine rc_of_code (isObj := isO) (Γ := envOf [(32, S32)]) (rs := [2]) mixed hI (envOf_rc (by simpa using h32)) Go.Proofs.Try.func33 (by kernel_rfl) hb33 Go.Proofs.Try.results33 Go.Proofs.Try.ntmps33 (by decide) ?_
  rintro H args K ⟨id, k, n, kept, now, acts, room, rfl, hs, h5, h6, h7, hK⟩
  have h1 := hs.1
  refine ⟨by simp, rfl, ?_⟩
  unfold b33 Go.Proofs.Try.f33
  simp only [Option.getD_some, argSlots, DV.ro, w_seq, w_region, mk_clean, tS_cons, g_none, hold_app, o_assign, take_const, constDV, mk_put, dropLk, tS_nil, hold_app2]
  refine w_draw [5, 8] (.quiet 0 (.quiet 1 (.quiet 2 (.quiet 3 (.quiet 4 (.acts [(5, [3, 2, 1, 0], .quiet 6 (.quiet 7 (.acts [(8, [], .done)])))])))))) (by decide) (by kernel_rfl) ?_
  simp only [mk_clean, rp_quiet, rpQ_zero, g_none, hold_app, q_move, DV.roA, Nat.reduceLT, rho_tmp, Nat.reduceBEq, look_miss, look_hit, DV.ro, ex_eq, mk_put, dropLk, rpQ_succ, q_nilCheck, dnil, q_fieldAddr, fp57_3, Nat.zero_add, q_load, ld_h, h1, shelfC, dlh_some, List.drop_succ_cons, List.drop_zero, la3, rp_acts, ra_cons, rpA_succ, rpA_zero, o_fn, args_cons, args_nil, mk_H, env_cons, if_true, dcl_some, List.all_cons, DV.flat, List.all_nil, Bool.and_self, List.map_cons, List.map_nil, true_and, ra_nil, and_true]
  refine app32 hs h5 ?_
  simp only [hold_app2, mk_called, Pos.isHp, List.filter_nil, mk_put?_some, dropLk, hold_app, rcA_cons, rcW_succ, rcW_zero, g_none, Nat.reduceLT, mk_t, Nat.reduceBEq, look_miss, look_hit, q_load, rho_tmp, ld_h, h1, shelfC, dlh_some, List.drop_succ_cons, List.drop_zero, la3, DV.ro, q_fieldAddr, fp57_3, Nat.zero_add, q_nilCheck, dnil, q_move, DV.roA, rcA_nil, and_true, slL_cons, slW_succ, slW_zero, slL_nil, mk_unlink, dropLks, rp_quiet, rpQ_succ, rpQ_zero, q_bin, b_sub, ex_eq, mk_put, q_max, rho_const, constDV, m_max, rp_acts, ra_cons, rpA_succ, rpA_zero, o_assign, take_tmp, takK, rp_done, w_ret, ret_one, DV.flat, true_and, ra_nil]
  rw [wrap_i64 (by omega) (by omega)]
  have e : (if room - (usedF now : Int) < 0 then 0 else room - (usedF now : Int)) = max (room - usedF now) 0 := by split <;> omega
  rw [e]
  exact hK

/-- What the heap is behind an act. -/
def doneH (H : List HObj) (id k n : Nat) (now : Files) (acts : List Act) (room : Int) (a : Act) : List HObj := (H.set n (.map (enc (doesF a now)))).set id (.cells (shelfC k n (acts ++ [a]) room))
def putC (now : Files) (room : Int) (nm b : Str) : Int :=
  if namedF nm = false then 10 else if (getF now nm).isSome then 14 else if 60 ≤ now.length ∨ max (room - usedF now) 0 < b.length then 15 else 0
theorem app36 {H : List HObj} {K : List HObj → DV → Prop} {id k n : Nat} {kept now : Files} {acts : List Act} {room : Int} (a : Act) (h1 : ShelfAt H id k n kept now acts room) (h2 : ((getF now a.name).getD []).length + a.b.length ≤ 9223372036854775807) (h3 : acts.length < 100000)
    (h : K (doneH H id k n now acts room a) (.int .i64 0)) : app S36 H [.ptr id 0, .agg [.int .i64 a.kind, .str a.name, .str a.b]] K := ⟨id, k, n, kept, now, acts, room, a, rfl, h1, h2, h3, h⟩
theorem app34 {H : List HObj} {K : List HObj → DV → Prop} {s : Str} (h1 : s.length < 4611686018427387904) (h : K H (.bool (namedF s))) : app S34 H [.str s] K := ⟨s, rfl, h1, h⟩
theorem app35 {H : List HObj} {K : List HObj → DV → Prop} {id k n : Nat} {kept now : Files} {acts : List Act} {room : Int} {nm : Str} (h1 : ShelfAt H id k n kept now acts room) (h : K H (.bool (getF now nm).isSome)) : app S35 H [.ptr id 0, .str nm] K := ⟨id, k, n, kept, now, acts, room, nm, rfl, h1, h⟩

noncomputable def b12 : Code := (Go.Proofs.Try.f12.body).getD .skip
theorem hb12 : Go.Proofs.Try.f12.body = some b12 := by kernel_rfl
/-- Put. -/
def S12 : Spec := fun H args K => ∃ id k n kept now acts room nm b, args = [.ptr id 0, .str nm, .str b] ∧ ShelfAt H id k n kept now acts room ∧ usedF now < 4611686018427387904 ∧ 0 ≤ room ∧ room < 4611686018427387904 ∧ acts.length < 100000 ∧ nm.length < 4611686018427387904 ∧ b.length < 4611686018427387904 ∧
  K (if putC now room nm b = 0 then doneH H id k n now acts room ⟨1, nm, b⟩ else H) (.int .i64 (putC now room nm b))
theorem rc12 {I : Jd pp} (hI : ∀ w e, I.Ok w e) (h33 : RC I 33 S33) : RC I 12 S12 := by
  refine rc_of_code (isObj := isO) (Γ := envOf [(34, S34), (35, S35), (33, S33), (36, S36)]) (rs := [6]) mixed hI (envOf_rc (by simpa using ⟨rc34 hI, rc35 hI, h33, rc36 hI⟩)) Go.Proofs.Try.func12 (by kernel_rfl) hb12 Go.Proofs.Try.results12 Go.Proofs.Try.ntmps12 (by decide) ?_
  rintro H args K ⟨id, k, n, kept, now, acts, room, nm, b, rfl, hs, h5, h6, h7, h8, h9, h10, hK⟩
  have h1 := hs.1
  have h3 := hs.2.2.1
  refine ⟨by simp, rfl, ?_⟩
  unfold b12 Go.Proofs.Try.f12
  simp only [Option.getD_some, argSlots, DV.ro, Nat.zero_add, Nat.reduceAdd, w_seq, w_region, mk_clean, tS_cons, g_none, hold_app, o_assign, take_const, constDV, mk_put, dropLk, tS_nil, hold_app2, w_block, o_move, Nat.reduceLT, move_tmp, movK, Nat.reduceBEq, look_miss, look_hit, DV.roA, o_fn, args_cons, rho_tmp, args_nil, mk_H, env_cons, Nat.reduceEqDiff, if_false, if_true, dcl_some, List.all_cons, DV.flat, List.all_nil, Bool.and_self, List.map_cons, List.map_nil, true_and]
  refine app34 h9 ?_
  simp only [hold_app2, mk_called, Pos.isHp, List.filter_nil, mk_put?_some, dropLk, hold_app, tS_cons, g_none, o_un, Nat.reduceLT, rho_tmp, look_hit, u_not, o_assign, take_tmp, takK, DV.roA, DV.ro, mk_put, tS_nil, w_cond, cd, Bool.not_eq_true', w_seq, w_region, mk_clean, take_const, constDV, w_ret, ret_one, DV.flat, true_and, Bool.not_eq_false', o_move, move_tmp, movK, Nat.reduceBEq, look_miss, o_fn, args_cons, args_nil, mk_H, env_cons, Nat.reduceEqDiff, if_false, if_true, dcl_some, List.all_cons, List.all_nil, Bool.and_self, List.map_cons, List.map_nil]
  refine ⟨fun e => by simpa [putC, e] using hK, fun e1 => ?_⟩
  refine app35 hs ?_
  simp only [hold_app2, mk_called, Pos.isHp, List.filter_nil, mk_put?_some, dropLk, hold_app, tS_cons, g_none, o_assign, Nat.reduceLT, take_tmp, takK, look_hit, DV.roA, DV.ro, mk_put, tS_nil, w_cond, rho_tmp, cd, w_seq, w_region, mk_clean, take_const, constDV, w_ret, ret_one, DV.flat, true_and, o_move, move_tmp, movK, Nat.reduceBEq, look_miss, o_nilCheck, dnil, o_fieldAddr, fp57_1, Nat.zero_add, o_load, ld_h, h1, shelfC, dlh_some, List.drop_succ_cons, List.drop_zero, la54, lo_map, o_len, dl54h, h3, onMap_some, enc_length, o_bin, nil_int, Bool.false_eq_true, rho_const, b_geq, g_some, gq_succ, gq_zero, gs1_eq, gs2_bool, decide_eq_false_iff_not, mk_setT, dl9, o_fn, args_cons, args_nil, mk_H, env_cons, Nat.reduceEqDiff, if_false, if_true, dcl_some, List.all_cons, List.all_nil, Bool.and_self, List.map_cons, List.map_nil, true_implies, Bool.not_false, Bool.true_eq_false, nil_tmp, false_implies, o_pick, pk, w_skip, bd65, bd65_0, bdk_eq, DV.cells, List.length_cons, List.length_nil, Nat.reduceAdd, Nat.reduceLeDiff, DV.scalar, putAt_eq, List.take_zero, List.nil_append, List.cons_append, bd65_1, List.take_succ_cons, bd65_2, List.drop_nil, List.append_nil, bd_nil, DV.ro1, and_true, decide_eq_true_eq]
  refine ⟨fun e2 => by simpa [putC, e1, e2] using hK, fun e2 => ⟨fun e3 => ?_, fun e3 => ?_⟩⟩
  · refine app33 hs h5 h6 h7 ?_
    simp only [hold_app2, mk_called, Pos.isHp, List.filter_nil, mk_put?_some, dropLk, hold_app, tS_cons, g_some, gq_succ, gq_zero, Nat.reduceLT, gs1_eq, Nat.reduceBEq, look_miss, look_hit, gs2_bool, mk_setT, o_bin, nil_tmp, Bool.false_eq_true, rho_tmp, b_gtr, g_none, o_pick, rho_const, constDV, pk, DV.roA, DV.ro, if_false, o_assign, take_tmp, takK, mk_put, tS_nil, w_cond, cd, decide_eq_true_eq, w_seq, w_region, mk_clean, take_const, w_ret, ret_one, DV.flat, true_and, decide_eq_false_iff_not, w_skip, o_move, move_tmp, movK, bd65, bd65_0, bdk_eq, DV.cells, List.length_cons, List.length_nil, Nat.zero_add, Nat.reduceAdd, Nat.reduceLeDiff, List.all_cons, DV.scalar, List.all_nil, Bool.and_self, putAt_eq, List.take_zero, List.nil_append, List.drop_succ_cons, List.drop_zero, List.cons_append, bd65_1, List.take_succ_cons, bd65_2, List.drop_nil, List.append_nil, bd_nil, o_fn, args_cons, args_nil, mk_H, env_cons, Nat.reduceEqDiff, if_true, dcl_some, List.map_cons, DV.ro1, List.map_nil, true_implies, Bool.not_false, Bool.true_eq_false, false_implies, and_true]
    refine ⟨fun e4 => ?_, fun e4 => ?_⟩
    · have e5 : putC now room nm b = 15 := by simp only [putC, e1, e2]; simp; intro h; omega
      simpa [e5] using hK
    · have e5 : putC now room nm b = 0 := by simp only [putC, e1, e2]; simp; omega
      have hlen : ((getF now nm).getD []).length + b.length ≤ 9223372036854775807 := by
        cases h : getF now nm with
        | none => simp; omega
        | some v => simp [h] at e2
      refine app36 ⟨1, nm, b⟩ hs hlen h8 ?_
      simp only [hold_app2, mk_called, Pos.isHp, List.filter_nil, mk_put?_some, dropLk, hold_app, tS_cons, g_none, o_assign, Nat.reduceLT, take_tmp, takK, look_hit, DV.roA, DV.ro, mk_put, tS_nil, w_ret, ret_one, DV.flat, true_and]
      simpa [e5] using hK
  · have e5 : putC now room nm b = 15 := by simp only [putC, e1, e2]; simp; omega
    simpa [e5] using hK
end Go.Ab.Sh
