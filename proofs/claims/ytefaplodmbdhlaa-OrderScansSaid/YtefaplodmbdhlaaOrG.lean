/- A part of the proofs that a law function returns true at every input; it has no condition of its own. -/
import Derived.Test.YtefaplodmbdhlaaOrB
set_option linter.unusedSimpArgs false
set_option linter.unusedVariables false
/- OrG: The order laws: rows of pairs, of writes, held against each other. -/
namespace Go.Ab.Or
open Go Go.Conc Go.RowKit Go.Ab
set_option maxRecDepth 10000
def prD (x : Str × Str) : DV := .agg [.str x.1, .str x.2]
@[ext] structure WR where
  key : Str
  del : Bool
  val : Str
  deriving DecidableEq
def wrD (x : WR) : DV := .agg [.str x.key, .bool x.del, .str x.val]
theorem getD_map {α : Type} (f : α → DV) (l : List α) (i : Nat) (h : i < l.length) : (l.map f).getD i .undef = f l[i] := by simp [List.getD, h]
theorem take_eq_step {α : Type} {l m : List α} {i : Nat} (h : i < l.length) (h2 : i < m.length) (ht : l.take i = m.take i) (e : l[i] = m[i]) : l.take (i + 1) = m.take (i + 1) := by
  rw [List.take_succ_eq_append_getElem h, List.take_succ_eq_append_getElem h2, ht, e]
theorem ne_of_at {α : Type} {l m : List α} {i : Nat} (h : i < l.length) (h2 : i < m.length) (e : l[i] ≠ m[i]) : l ≠ m := by
  rintro rfl; exact e rfl
/-- Two rows held against each other. -/
def SSame {α : Type} [DecidableEq α] (sz : Nat) (f : α → DV) : Spec := fun H args K => ∃ o1 o2 ps qs, args = [.sl o1 sz (List.map f ps), .sl o2 sz (List.map f qs)] ∧ ps.length < 4611686018427387904 ∧ qs.length < 4611686018427387904 ∧ K H (.bool (decide (ps = qs)))
theorem appSame {α : Type} [DecidableEq α] {sz : Nat} {f : α → DV} {H : List HObj} {K : List HObj → DV → Prop} {o1 o2 : Bool} {ps qs : List α} (h1 : ps.length < 4611686018427387904) (h2 : qs.length < 4611686018427387904) (h : K H (.bool (decide (ps = qs)))) :
    app (SSame sz f) H [.sl o1 sz (List.map f ps), .sl o2 sz (List.map f qs)] K := ⟨o1, o2, ps, qs, rfl, h1, h2, h⟩
def MSame {α : Type} (N sz : Nat) (f : α → DV) (v0 : List (Nat × DV)) (q : Nat) (H : List HObj) (ps qs : List α) (m : Nat) (st : St) : Prop := ∃ i : Nat, i ≤ ps.length ∧ m = ps.length - i ∧ ps.take i = qs.take i ∧ st = mk N ((0, .sl false sz (ps.map f)) :: (1, .sl false sz (qs.map f)) :: (v0 ++ [(q, .int .i64 i)])) [] H []
noncomputable def b39 : Code := (Go.Proofs.Try.f39.body).getD .skip
theorem hb39 : Go.Proofs.Try.f39.body = some b39 := by kernel_rfl
theorem rcSameP {I : Jd pp} (hI : ∀ w e, I.Ok w e) : RC I 39 (SSame 2 prD) := by
  refine rc_of_code (isObj := isO) (Γ := envOf []) (rs := [4]) mixed hI (envOf_rc (by simp)) Go.Proofs.Try.func39 (by kernel_rfl) hb39 Go.Proofs.Try.results39 Go.Proofs.Try.ntmps39 (by decide) ?_
  rintro H args K ⟨o1, o2, ps, qs, rfl, hl, hl2, hK⟩
  refine ⟨by simp, rfl, ?_⟩
  unfold b39 Go.Proofs.Try.f39
  simp only [Option.getD_some, argSlots, vro_sl, Nat.zero_add, w_seq, w_region, mk_clean, tS_cons, g_none, hold_app, o_assign, take_const, constDV, mk_put, dropLk, tS_nil, hold_app2, o_move, Nat.reduceLT, move_tmp, movK, Nat.reduceBEq, look_miss, look_hit, lkGet, o_len, rho_tmp, dl31, List.length_map, mk_put?_some, o_bin, nil_tmp, Bool.false_eq_true, b_neq, ne_eq, w_cond, cd, w_ret, ret_one, vfla_bool, true_and, w_skip, w_block, if_false]
  refine ⟨fun hc => ?_, fun hc => ?_⟩
  · have : ps ≠ qs := by rintro rfl; simp at hc
    simpa [this] using hK
  · have hlen : ps.length = qs.length := by have := of_decide_eq_false hc; omega
    refine w_loop [0, 1, 5] (MSame 26 2 prD [] 5 H ps qs) ps.length ?_ ?_
    · exact ⟨0, by omega, by omega, by simp, by simp only [mk_forget, List.map_cons, Nat.reduceBEq, look_miss, look_hit, List.map_nil, nc0, List.nil_append]; try rfl⟩
    · rintro m st ⟨i, hi, rfl, ht, rfl⟩
      by_cases e : i < ps.length
      · have e1 : (i : Int) < ps.length := by omega
        have e1' : (i : Int) < qs.length := by omega
        have e2 : (0 : Int) ≤ i := by omega
        have wi : IntKind.i64.wrap ((i : Int) + 1) = ((i + 1 : Nat) : Int) := by rw [wrap_i64 (by omega) (by omega)]; omega
        simp only [List.nil_append, w_seq, w_region, mk_clean, tS_cons, g_none, hold_app, o_move, Nat.reduceLT, move_tmp, movK, Nat.reduceBEq, look_miss, look_hit, vroA_int, dropLk, lkGet, o_len, rho_tmp, dl31, List.length_map, mk_put?_some, o_bin, nil_tmp, Bool.false_eq_true, b_lss, e1, decide_true, tS_nil, hold_app2, w_cond, cd, w_skip, w_block, true_implies, Bool.true_eq_false, w_exit, o_assign, take_const, constDV, mk_put, w_ret, ret_one, vfla_bool, true_and, if_true, false_implies, and_true, if_false]
        refine w_draw [] (.quiet 0 (.quiet 1 (.quiet 2 (.quiet 3 (.quiet 4 (.quiet 5 (.quiet 6 (.quiet 7 (.quiet 8 (.done)))))))))) (by decide) (by kernel_rfl) ?_
        simp only [mk_clean, rp_quiet, rpQ_zero, g_none, hold_app, q_move, Nat.reduceLT, rho_tmp, Nat.reduceBEq, look_miss, look_hit, vroA_sl, ex_eq, mk_put, dropLk, rpQ_succ, vroA_int, q_indexAddr, ix31, e2, List.length_map, e1, Int.toNat_natCast, getD_map prD ps i e, prD, vcl_agg, true_and, q_load, ld_vptr, la35, List.length_cons, List.length_nil, Nat.zero_add, Nat.reduceAdd, Nat.reduceLeDiff, List.take_succ_cons, List.take_zero, List.map_cons, vro1_str, List.map_nil, e1', getD_map prD qs i (hlen ▸ e), q_bin, eneq35, Bool.and_true, rp_done, hold_app2, w_cond, cd, w_seq, w_region, tS_cons, o_assign, take_const, constDV, tS_nil, w_ret, ret_one, vfla_bool, w_skip, o_move, move_tmp, movK, o_bin, nil_int, Bool.false_eq_true, rho_const, b_add, wi, mk_put?_some, take_tmp, takK, mk_forget, if_false]
        refine ⟨fun hx => ?_, fun hx => ⟨_, ?_, i + 1, by omega, rfl, ?_, rfl⟩⟩
        · have : ps ≠ qs := ne_of_at e (hlen ▸ e) fun ee => by rw [ee] at hx; simp at hx
          simpa [this] using hK
        · omega
        · refine take_eq_step e (hlen ▸ e) ht ?_
          simp only [Bool.not_eq_false', Bool.and_eq_true, decide_eq_true_eq, Bool.and_true, beq_iff_eq] at hx
          exact Prod.ext hx.1 hx.2
      · have e0 : i = ps.length := by omega
        subst e0
        simp only [List.nil_append, w_seq, w_region, mk_clean, tS_cons, g_none, hold_app, o_move, Nat.reduceLT, move_tmp, movK, Nat.reduceBEq, look_miss, look_hit, vroA_int, dropLk, lkGet, o_len, rho_tmp, dl31, List.length_map, mk_put?_some, o_bin, nil_tmp, Bool.false_eq_true, b_lss, Int.lt_irrefl, decide_false, tS_nil, hold_app2, w_cond, cd, w_skip, w_block, false_implies, w_exit, o_assign, take_const, constDV, mk_put, w_ret, ret_one, vfla_bool, true_and, if_true, true_implies, if_false]
        rw [hlen, List.take_length, ← hlen, List.take_length] at ht
        simpa [ht] using hK
noncomputable def b33 : Code := (Go.Proofs.Try.f33.body).getD .skip
theorem hb33 : Go.Proofs.Try.f33.body = some b33 := by kernel_rfl
theorem rcSameW {I : Jd pp} (hI : ∀ w e, I.Ok w e) : RC I 33 (SSame 3 wrD) := by
  refine rc_of_code (isObj := isO) (Γ := envOf []) (rs := [4]) mixed hI (envOf_rc (by simp)) Go.Proofs.Try.func33 (by kernel_rfl) hb33 Go.Proofs.Try.results33 Go.Proofs.Try.ntmps33 (by decide) ?_
  rintro H args K ⟨o1, o2, ps, qs, rfl, hl, hl2, hK⟩
  refine ⟨by simp, rfl, ?_⟩
  unfold b33 Go.Proofs.Try.f33
  simp only [Option.getD_some, argSlots, vro_sl, Nat.zero_add, w_seq, w_region, mk_clean, tS_cons, g_none, hold_app, o_assign, take_const, constDV, mk_put, dropLk, tS_nil, hold_app2, o_move, Nat.reduceLT, move_tmp, movK, Nat.reduceBEq, look_miss, look_hit, lkGet, o_len, rho_tmp, dl27, List.length_map, mk_put?_some, o_bin, nil_tmp, Bool.false_eq_true, b_neq, ne_eq, w_cond, cd, w_ret, ret_one, vfla_bool, true_and, w_skip, w_block, if_false]
  refine ⟨fun hc => ?_, fun hc => ?_⟩
  · have : ps ≠ qs := by rintro rfl; simp at hc
    simpa [this] using hK
  · have hlen : ps.length = qs.length := by have := of_decide_eq_false hc; omega
    refine w_loop [0, 1, 5] (MSame 26 3 wrD [] 5 H ps qs) ps.length ?_ ?_
    · exact ⟨0, by omega, by omega, by simp, by simp only [mk_forget, List.map_cons, Nat.reduceBEq, look_miss, look_hit, List.map_nil, nc0, List.nil_append]; try rfl⟩
    · rintro m st ⟨i, hi, rfl, ht, rfl⟩
      by_cases e : i < ps.length
      · have e1 : (i : Int) < ps.length := by omega
        have e1' : (i : Int) < qs.length := by omega
        have e2 : (0 : Int) ≤ i := by omega
        have wi : IntKind.i64.wrap ((i : Int) + 1) = ((i + 1 : Nat) : Int) := by rw [wrap_i64 (by omega) (by omega)]; omega
        simp only [List.nil_append, w_seq, w_region, mk_clean, tS_cons, g_none, hold_app, o_move, Nat.reduceLT, move_tmp, movK, Nat.reduceBEq, look_miss, look_hit, vroA_int, dropLk, lkGet, o_len, rho_tmp, dl27, List.length_map, mk_put?_some, o_bin, nil_tmp, Bool.false_eq_true, b_lss, e1, decide_true, tS_nil, hold_app2, w_cond, cd, w_skip, w_block, true_implies, Bool.true_eq_false, w_exit, o_assign, take_const, constDV, mk_put, w_ret, ret_one, vfla_bool, true_and, if_true, false_implies, and_true, if_false]
        refine w_draw [] (.quiet 0 (.quiet 1 (.quiet 2 (.quiet 3 (.quiet 4 (.quiet 5 (.quiet 6 (.quiet 7 (.quiet 8 (.done)))))))))) (by decide) (by kernel_rfl) ?_
        simp only [mk_clean, rp_quiet, rpQ_zero, g_none, hold_app, q_move, Nat.reduceLT, rho_tmp, Nat.reduceBEq, look_miss, look_hit, vroA_sl, ex_eq, mk_put, dropLk, rpQ_succ, vroA_int, q_indexAddr, ix27, e2, List.length_map, e1, Int.toNat_natCast, getD_map wrD ps i e, wrD, vcl_agg, true_and, q_load, ld_vptr, la26, List.length_cons, List.length_nil, Nat.zero_add, Nat.reduceAdd, Nat.reduceLeDiff, List.take_succ_cons, List.take_zero, List.map_cons, vro1_str, vro1_bool, List.map_nil, e1', getD_map wrD qs i (hlen ▸ e), q_bin, eneq26, Bool.and_true, rp_done, hold_app2, w_cond, cd, w_seq, w_region, tS_cons, o_assign, take_const, constDV, tS_nil, w_ret, ret_one, vfla_bool, w_skip, o_move, move_tmp, movK, o_bin, nil_int, Bool.false_eq_true, rho_const, b_add, wi, mk_put?_some, take_tmp, takK, mk_forget, if_false]
        refine ⟨fun hx => ?_, fun hx => ⟨_, ?_, i + 1, by omega, rfl, ?_, rfl⟩⟩
        · have : ps ≠ qs := ne_of_at e (hlen ▸ e) fun ee => by rw [ee] at hx; simp at hx
          simpa [this] using hK
        · omega
        · refine take_eq_step e (hlen ▸ e) ht ?_
          simp only [Bool.not_eq_false', Bool.and_eq_true, decide_eq_true_eq, Bool.and_true, beq_iff_eq] at hx
          exact WR.ext hx.1 hx.2.1 hx.2.2
      · have e0 : i = ps.length := by omega
        subst e0
        simp only [List.nil_append, w_seq, w_region, mk_clean, tS_cons, g_none, hold_app, o_move, Nat.reduceLT, move_tmp, movK, Nat.reduceBEq, look_miss, look_hit, vroA_int, dropLk, lkGet, o_len, rho_tmp, dl27, List.length_map, mk_put?_some, o_bin, nil_tmp, Bool.false_eq_true, b_lss, Int.lt_irrefl, decide_false, tS_nil, hold_app2, w_cond, cd, w_skip, w_block, false_implies, w_exit, o_assign, take_const, constDV, mk_put, w_ret, ret_one, vfla_bool, true_and, if_true, true_implies, if_false]
        rw [hlen, List.take_length, ← hlen, List.take_length] at ht
        simpa [ht] using hK
noncomputable def b12 : Code := (Go.Proofs.Try.f12.body).getD .skip
theorem hb12 : Go.Proofs.Try.f12.body = some b12 := by kernel_rfl
theorem rcEqualP {I : Jd pp} (hI : ∀ w e, I.Ok w e) : RC I 12 (SSame 2 prD) := by
  refine rc_of_code (isObj := isO) (Γ := envOf []) (rs := [4]) mixed hI (envOf_rc (by simp)) Go.Proofs.Try.func12 (by kernel_rfl) hb12 Go.Proofs.Try.results12 Go.Proofs.Try.ntmps12 (by decide) ?_
  rintro H args K ⟨o1, o2, ps, qs, rfl, hl, hl2, hK⟩
  refine ⟨by simp, rfl, ?_⟩
  unfold b12 Go.Proofs.Try.f12
  simp only [Option.getD_some, argSlots, vro_sl, Nat.zero_add, w_seq, w_region, mk_clean, tS_cons, g_none, hold_app, o_assign, take_const, constDV, mk_put, dropLk, tS_nil, hold_app2, o_move, Nat.reduceLT, move_tmp, movK, Nat.reduceBEq, look_miss, look_hit, lkGet, o_len, rho_tmp, dl31, List.length_map, mk_put?_some, o_bin, nil_tmp, Bool.false_eq_true, b_neq, ne_eq, w_cond, cd, w_ret, ret_one, vfla_bool, true_and, w_skip, move_const, vroA_int, w_block, if_false]
  refine ⟨fun hc => ?_, fun hc => ?_⟩
  · have : ps ≠ qs := by rintro rfl; simp at hc
    simpa [this] using hK
  · have hlen : ps.length = qs.length := by have := of_decide_eq_false hc; omega
    refine w_loop [0, 1, 12, 13] (MSame 26 2 prD [(12, .int .i64 ps.length)] 13 H ps qs) ps.length ?_ ?_
    · exact ⟨0, by omega, by omega, by simp, by simp only [mk_forget, List.map_cons, Nat.reduceBEq, look_miss, look_hit, List.map_nil, nc0, List.cons_append, List.nil_append]; try rfl⟩
    · rintro m st ⟨i, hi, rfl, ht, rfl⟩
      by_cases e : i < ps.length
      · have e1 : (i : Int) < ps.length := by omega
        have e1' : (i : Int) < qs.length := by omega
        have e2 : (0 : Int) ≤ i := by omega
        have wi : IntKind.i64.wrap ((i : Int) + 1) = ((i + 1 : Nat) : Int) := by rw [wrap_i64 (by omega) (by omega)]; omega
        simp only [List.cons_append, List.nil_append, w_seq, w_region, mk_clean, tS_cons, g_none, hold_app, o_bin, nil_tmp, Bool.false_eq_true, Nat.reduceLT, rho_tmp, Nat.reduceBEq, look_miss, look_hit, b_lss, e1, decide_true, mk_put?_some, dropLk, tS_nil, hold_app2, w_cond, cd, w_skip, w_block, o_move, move_tmp, movK, vroA_int, o_assign, take_tmp, takK, mk_put, true_implies, Bool.true_eq_false, w_exit, take_const, constDV, w_ret, ret_one, vfla_bool, true_and, if_true, false_implies, and_true, if_false]
        refine w_draw [] (.quiet 0 (.quiet 1 (.quiet 2 (.quiet 3 (.quiet 4 (.quiet 5 (.quiet 6 (.quiet 7 (.quiet 8 (.done)))))))))) (by decide) (by kernel_rfl) ?_
        simp only [mk_clean, rp_quiet, rpQ_zero, g_none, hold_app, q_move, Nat.reduceLT, rho_tmp, Nat.reduceBEq, look_miss, look_hit, vroA_sl, ex_eq, mk_put, dropLk, rpQ_succ, vroA_int, q_indexAddr, ix31, e2, List.length_map, e1, Int.toNat_natCast, getD_map prD ps i e, prD, vcl_agg, true_and, q_load, ld_vptr, la35, List.length_cons, List.length_nil, Nat.zero_add, Nat.reduceAdd, Nat.reduceLeDiff, List.take_succ_cons, List.take_zero, List.map_cons, vro1_str, List.map_nil, e1', getD_map prD qs i (hlen ▸ e), q_bin, eneq35, Bool.and_true, rp_done, hold_app2, w_cond, cd, w_seq, w_region, tS_cons, o_assign, take_const, constDV, tS_nil, w_ret, ret_one, vfla_bool, w_skip, o_bin, nil_int, Bool.false_eq_true, rho_const, b_add, wi, mk_put?_some, o_move, move_tmp, movK, mk_forget, if_false]
        refine ⟨fun hx => ?_, fun hx => ⟨_, ?_, i + 1, by omega, rfl, ?_, rfl⟩⟩
        · have : ps ≠ qs := ne_of_at e (hlen ▸ e) fun ee => by rw [ee] at hx; simp at hx
          simpa [this] using hK
        · omega
        · refine take_eq_step e (hlen ▸ e) ht ?_
          simp only [Bool.not_eq_false', Bool.and_eq_true, decide_eq_true_eq, Bool.and_true, beq_iff_eq] at hx
          exact Prod.ext hx.1 hx.2
      · have e0 : i = ps.length := by omega
        subst e0
        simp only [List.cons_append, List.nil_append, w_seq, w_region, mk_clean, tS_cons, g_none, hold_app, o_bin, nil_tmp, Bool.false_eq_true, Nat.reduceLT, rho_tmp, Nat.reduceBEq, look_miss, look_hit, b_lss, Int.lt_irrefl, decide_false, mk_put?_some, dropLk, tS_nil, hold_app2, w_cond, cd, w_skip, w_block, o_move, move_tmp, movK, vroA_int, o_assign, take_tmp, takK, mk_put, false_implies, w_exit, take_const, constDV, w_ret, ret_one, vfla_bool, true_and, if_true, true_implies, if_false]
        rw [hlen, List.take_length, ← hlen, List.take_length] at ht
        simpa [ht] using hK
end Go.Ab.Or
