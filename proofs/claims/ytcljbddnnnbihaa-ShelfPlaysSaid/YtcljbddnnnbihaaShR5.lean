/- A part of the proofs that a law function returns true at every input; it has no condition of its own. -/
import Derived.Test.YtcljbddnnnbihaaShR4
set_option linter.unusedSimpArgs false
set_option linter.unusedVariables false
/- ShR5: The reference shelf: name and methods. -/
namespace Go.Ab.Sh
open Go Go.Conc Go.RowKit Go.Ab
set_option maxRecDepth 10000
noncomputable def b37 : Code := (Go.Proofs.Try.f37.body).getD .skip
theorem hb37 : Go.Proofs.Try.f37.body = some b37 := by kernel_rfl
/-- ref's name. -/
def S37 : Spec := fun H args K => ∃ s : Str, args = [.str s] ∧ s.length < 4611686018427387904 ∧ K H (.bool (namedF s))
def M37 (s : Str) (H : List HObj) (m : Nat) (st : St) : Prop := ∃ i : Nat, i ≤ s.length ∧ m = s.length - i ∧ (∀ j, j < i → okC (s.getD j 0) = true) ∧ st = mk 40 [(0, .str s), (2, .bool false), (3, .int .i64 i)] [] H []
theorem rc37 {I : Jd pp} (hI : ∀ w e, I.Ok w e) : RC I 37 S37 := by
  refine rc_of_code (isObj := isO) (Γ := envOf []) (rs := [2]) mixed hI (envOf_rc (by simp)) Go.Proofs.Try.func37 (by kernel_rfl) hb37 Go.Proofs.Try.results37 Go.Proofs.Try.ntmps37 (by decide) ?_
  rintro H args K ⟨s, rfl, hlen, hK⟩
  refine ⟨by simp, rfl, ?_⟩
  unfold b37 Go.Proofs.Try.f37
  simp only [Option.getD_some, argSlots, DV.ro, w_seq, w_region, mk_clean, tS_cons, g_none, hold_app, o_assign, take_const, constDV, mk_put, dropLk, tS_nil, hold_app2, w_block]
  refine w_loop [0, 2, 3] (M37 s H) s.length ?_ ?_
  · exact ⟨0, by omega, by omega, by intro j hj; omega, by simp only [mk_forget, List.map_cons, Nat.reduceBEq, look_miss, look_hit, List.map_nil]; rfl⟩
  · rintro m st ⟨i, hi, rfl, hj, rfl⟩
    have hbad : i < s.length → okC (s.getD i 0) = false → K H (.bool false) := by
      intro h1 h2
      have : namedF s = false := by
        simp only [namedF, Bool.and_eq_false_iff]
        refine .inl (.inl (List.all_eq_false.2 ⟨s[i], List.getElem_mem h1, ?_⟩))
        simpa [List.getD, h1] using h2
      rwa [this] at hK
    have hgood : i < s.length → okC (s.getD i 0) = true → ∃ m', m' < s.length - i ∧ M37 s H m' (mk 40 [(0, .str s), (2, .bool false), (3, .int .i64 (IntKind.i64.wrap ((i : Int) + 1)))] [] H []) := by
      intro h1 h2
      refine ⟨s.length - (i + 1), by omega, i + 1, by omega, rfl, fun j hj' => ?_, ?_⟩
      · rcases Nat.lt_succ_iff_lt_or_eq.1 hj' with h | rfl
        · exact hj j h
        · exact h2
      · rw [wrap_i64 (by omega) (by omega)]; rfl
    have hend : ¬ (i : Int) < s.length → K H (.bool (decide (s ≠ []) && decide (s.length ≤ 16))) := by
      intro h1
      have e : i = s.length := by omega
      have : s.all okC = true := by
        rw [List.all_eq_true]
        intro x hx
        obtain ⟨k, hk, rfl⟩ := List.getElem_of_mem hx
        simpa [List.getD, hk] using hj k (by omega)
      simpa [namedF, this] using hK
    simp only [w_seq, w_region, mk_clean, tS_cons, g_none, hold_app, o_move, Nat.reduceLT, move_tmp, movK, Nat.reduceBEq, look_miss, look_hit, DV.roA, DV.ro, dropLk, o_len, rho_tmp, dl9, mk_put?_some, o_bin, nil_tmp, Bool.false_eq_true, b_lss, tS_nil, hold_app2, w_cond, cd, decide_eq_true_eq, w_skip, w_block, o_index, ix9, Int.toNat_natCast, o_assign, take_tmp, takK, mk_put, nil_int, rho_const, constDV, g_some, gq_succ, gq_zero, gs1_eq, gs2_bool, decide_eq_false_iff_not, mk_setT, b_gtr, o_pick, pk, if_false, if_true, b_neq, ne_eq, decide_not, Bool.not_eq_true', take_const, w_ret, ret_one, DV.flat, true_and, Bool.not_eq_false', b_add, mk_forget, List.map_cons, List.map_nil, true_implies, Bool.not_true, Bool.true_eq_false, false_implies, and_true, Bool.not_false, gs2_tup, w_exit, b_geq, b_leq]
    have hend2 : ¬ (i : Int) < s.length → (¬s = [] → K H (.bool (decide ((s.length : Int) ≤ 16)))) ∧ (s = [] → K H (.bool false)) := by
      intro h1
      have := hend h1
      refine ⟨fun h2 => ?_, fun h2 => ?_⟩
      · have e : decide ((s.length : Int) ≤ 16) = decide (s.length ≤ 16) := decide_eq_decide.2 (by omega)
        rw [e]; simpa [h2] using this
      · simpa [h2] using this
    refine ⟨fun h1 => ⟨by omega, h1, ?_⟩, fun h1 => ⟨fun h2 => (hend2 h1).1 (by rintro rfl; simp at h2), fun h2 => (hend2 h1).2 (by cases s with | nil => rfl | cons x r => simp at h2; omega)⟩⟩
    generalize List.getD s i 0 = c at hbad hgood ⊢
    repeat' (first | apply And.intro | intro _)
    all_goals (first
      | exact hbad (by omega) (by simp [okC]; omega)
      | exact hgood (by omega) (by simp [okC]; omega))

theorem app37 {H : List HObj} {K : List HObj → DV → Prop} {s : Str} (h1 : s.length < 4611686018427387904) (h : K H (.bool (namedF s))) : app S37 H [.str s] K := ⟨s, rfl, h1, h⟩
theorem app40 {H : List HObj} {K : List HObj → DV → Prop} {id : Nat} {l kept : Files} {acts : List Act} {most : Int} (a : Act) (h1 : RefAt H id l kept acts most) (h2 : l.length < 100000) (h3 : acts.length < 100000) (h4 : (a.kind = 2 ∨ a.kind = 3) → 0 ≤ findI l a.name) (h5 : (atD l (findI l a.name)).length + a.b.length ≤ 9223372036854775807)
    (h : K (H.set id (.cells (refC (rdoneF l a) kept (acts ++ [a]) most))) (.tup [])) : app S40 H [.ptr id 0, .agg [.int .i64 a.kind, .str a.name, .str a.b]] K := ⟨id, l, kept, acts, most, a, rfl, h1, h2, h3, h4, h5, h⟩
def rputC (l : Files) (most : Int) (nm b : Str) : Int :=
  if namedF nm = false then 10 else if 0 ≤ findI l nm then 14 else if 60 ≤ l.length ∨ max (most - usedF l) 0 < b.length then 15 else 0
def rdoH (H : List HObj) (id : Nat) (l kept : Files) (acts : List Act) (most : Int) (a : Act) : List HObj := H.set id (.cells (refC (rdoneF l a) kept (acts ++ [a]) most))
theorem atD_used (l : Files) (i : Int) : (atD l i).length ≤ usedF l := by
  have : ∀ (l : Files) (k : Nat), (((l[k]?).map (·.2)).getD [] : Str).length ≤ usedF l := by
    intro l
    induction l with
    | nil => intro k; simp
    | cons x r ih =>
      intro k
      obtain ⟨x, v⟩ := x
      cases k with
      | zero => simp [usedF]
      | succ k => have := ih k; simp only [List.getElem?_cons_succ, usedF]; omega
  exact this l _
noncomputable def b13 : Code := (Go.Proofs.Try.f13.body).getD .skip
theorem hb13 : Go.Proofs.Try.f13.body = some b13 := by kernel_rfl
/-- ref's Put. -/
def S13 : Spec := fun H args K => ∃ id l kept acts most nm b, args = [.ptr id 0, .str nm, .str b] ∧ RefAt H id l kept acts most ∧ l.length < 100000 ∧ usedF l < 4611686018427387904 ∧ 0 ≤ most ∧ most < 4611686018427387904 ∧ acts.length < 100000 ∧ nm.length < 4611686018427387904 ∧ b.length < 4611686018427387904 ∧
  K (if rputC l most nm b = 0 then rdoH H id l kept acts most ⟨1, nm, b⟩ else H) (.int .i64 (rputC l most nm b))
theorem rc13 {I : Jd pp} (hI : ∀ w e, I.Ok w e) : RC I 13 S13 := by
  refine rc_of_code (isObj := isO) (Γ := envOf [(37, S37), (38, S38), (39, S39), (40, S40)]) (rs := [6]) mixed hI (envOf_rc (by simpa using ⟨rc37 hI, rc38 hI, rc39 hI, rc40 hI⟩)) Go.Proofs.Try.func13 (by kernel_rfl) hb13 Go.Proofs.Try.results13 Go.Proofs.Try.ntmps13 (by decide) ?_
  rintro H args K ⟨id, l, kept, acts, most, nm, b, rfl, hs, h5, h6, h7, h8, h9, h10, h11, hK⟩
  have h1 : H[id]? = some (.cells (refC l kept acts most)) := hs
  refine ⟨by simp, rfl, ?_⟩
  unfold b13 Go.Proofs.Try.f13
  simp only [Option.getD_some, argSlots, DV.ro, Nat.zero_add, Nat.reduceAdd, w_seq, w_region, mk_clean, tS_cons, g_none, hold_app, o_assign, take_const, constDV, mk_put, dropLk, tS_nil, hold_app2, w_block, o_move, Nat.reduceLT, move_tmp, movK, Nat.reduceBEq, look_miss, look_hit, DV.roA, o_fn, args_cons, rho_tmp, args_nil, mk_H, env_cons, Nat.reduceEqDiff, if_false, if_true, dcl_some, List.all_cons, DV.flat, List.all_nil, Bool.and_self, List.map_cons, List.map_nil, true_and]
  refine app37 h10 ?_
  simp only [hold_app2, mk_called, Pos.isHp, List.filter_nil, mk_put?_some, dropLk, hold_app, tS_cons, g_none, o_un, Nat.reduceLT, rho_tmp, look_hit, u_not, o_assign, take_tmp, takK, DV.roA, DV.ro, mk_put, tS_nil, w_cond, cd, Bool.not_eq_true', w_seq, w_region, mk_clean, take_const, constDV, w_ret, ret_one, DV.flat, true_and, Bool.not_eq_false', o_move, move_tmp, movK, Nat.reduceBEq, look_miss, o_nilCheck, dnil, o_fieldAddr, fp61_0, Nat.add_zero, o_load, ld_h]
  refine ⟨fun e => by simpa [rputC, e] using hK, fun e1 => ?_⟩
  simp only [h1, refC, dlh_some, List.drop_zero, la58, DV.ro, hold_app, Nat.reduceLT, rho_tmp, look_hit, lo_sl, addrPos, ia58, Bool.false_eq_true, dropLk, if_false, tS_cons, g_none, o_move, move_tmp, movK, Nat.reduceBEq, look_miss, DV.roA, Pos.atSlot, Bool.or_false, o_fn, args_cons, args_nil, mk_H, env_cons, Nat.reduceEqDiff, if_true, dcl_some, List.all_cons, DV.flat, List.all_nil, Bool.and_self, List.map_cons, List.map_nil, true_and]
  refine app38 (by omega) ?_
  simp only [hold_app2, mk_called, Pos.isHp, List.filter_cons, Bool.not_true, Bool.false_eq_true, List.filter_nil, if_false, mk_put?_some, dropLk, hold_app, tS_cons, g_none, o_bin, nil_int, Nat.reduceLT, rho_tmp, look_hit, rho_const, constDV, b_geq, o_assign, take_tmp, takK, DV.roA, DV.ro, mk_put, tS_nil, w_cond, cd, decide_eq_true_eq, w_seq, w_region, mk_clean, take_const, w_ret, ret_one, DV.flat, true_and, decide_eq_false_iff_not, o_move, move_tmp, movK, Nat.reduceBEq, look_miss, o_nilCheck, dnil, o_fieldAddr, fp61_0, Nat.add_zero, o_load, ld_h, h1, refC, dlh_some, List.drop_zero, la58, lo_sl, addrPos, ia58, o_len, dl58, List.length_map, Pos.atSlot, Bool.or_false, g_some, gq_succ, gq_zero, gs1_eq, gs2_bool, mk_setT, dl9, o_fn, args_cons, args_nil, mk_H, env_cons, Nat.reduceEqDiff, if_true, dcl_some, List.all_cons, List.all_nil, Bool.and_self, List.map_cons, List.map_nil, true_implies, Bool.not_false, Bool.true_eq_false, nil_tmp, false_implies, o_pick, pk, w_skip, bd69, bd69_0, bdk_eq, DV.cells, List.length_cons, List.length_nil, Nat.zero_add, Nat.reduceAdd, Nat.reduceLeDiff, DV.scalar, putAt_eq, List.take_zero, List.nil_append, List.drop_succ_cons, List.cons_append, bd69_1, List.take_succ_cons, bd69_2, List.drop_nil, List.append_nil, bd_nil, DV.ro1, and_true]
  refine ⟨fun e2 => by simpa [rputC, e1, e2] using hK, fun e2 => ⟨fun e3 => ?_, fun e3 => ?_⟩⟩
  · refine app39 hs (by omega) h6 h7 h8 ?_
    simp only [hold_app2, mk_called, Pos.isHp, List.filter_cons, Bool.not_true, Bool.false_eq_true, List.filter_nil, if_false, mk_put?_some, dropLk, hold_app, tS_cons, g_some, gq_succ, gq_zero, Nat.reduceLT, gs1_eq, Nat.reduceBEq, look_miss, look_hit, gs2_bool, mk_setT, o_bin, nil_tmp, rho_tmp, b_gtr, g_none, o_pick, rho_const, constDV, pk, DV.roA, DV.ro, o_assign, take_tmp, takK, mk_put, tS_nil, w_cond, cd, decide_eq_true_eq, w_seq, w_region, mk_clean, take_const, w_ret, ret_one, DV.flat, true_and, decide_eq_false_iff_not, w_skip, o_move, move_tmp, movK, bd69, bd69_0, bdk_eq, DV.cells, List.length_cons, List.length_nil, Nat.zero_add, Nat.reduceAdd, Nat.reduceLeDiff, List.all_cons, DV.scalar, List.all_nil, Bool.and_self, putAt_eq, List.take_zero, List.nil_append, List.drop_succ_cons, List.drop_zero, List.cons_append, bd69_1, List.take_succ_cons, bd69_2, List.drop_nil, List.append_nil, bd_nil, o_fn, args_cons, args_nil, mk_H, env_cons, Nat.reduceEqDiff, if_true, dcl_some, List.map_cons, DV.ro1, List.map_nil, true_implies, Bool.not_false, Bool.true_eq_false, false_implies, and_true]
    refine ⟨fun e4 => ?_, fun e4 => ?_⟩
    · have e5 : rputC l most nm b = 15 := by simp only [rputC, e1, e2]; simp; intro h; omega
      simpa [e5] using hK
    · have e5 : rputC l most nm b = 0 := by simp only [rputC, e1, e2]; simp; omega
      refine app40 ⟨1, nm, b⟩ hs h5 h9 (by simp) (by have := atD_used l (findI l nm); simp only; omega) ?_
      simp only [hold_app2, mk_called, Pos.isHp, List.filter_nil, mk_put?_some, dropLk, hold_app, tS_nil, w_seq, w_region, mk_clean, tS_cons, g_none, o_assign, take_const, constDV, mk_put, w_ret, Nat.reduceLT, ret_one, DV.flat, look_hit, true_and]
      simpa [e5, rdoH] using hK
  · have e5 : rputC l most nm b = 15 := by simp only [rputC, e1, e2]; simp; omega
    simpa [e5] using hK
end Go.Ab.Sh
