/- A part of the proofs that a law function returns true at every input; it has no condition of its own. -/
import Derived.Test.YtefaplodmbdhlaaOrT
set_option linter.unusedSimpArgs false
set_option linter.unusedVariables false
/- OrA: The order laws: numbers held against each other, rows of numbers searched. -/
namespace Go.Ab.Or
open Go Go.Conc Go.RowKit Go.Ab
set_option maxRecDepth 10000
def isO : ObjT := fun t => t == 53 || t == 68 || t == 60
theorem isO_eq {t : TypeId} : isO t = (t == 53 || t == 68 || t == 60) := _root_.id rfl
noncomputable def b31 : Code := (Go.Proofs.Try.f31.body).getD .skip
theorem hb31 : Go.Proofs.Try.f31.body = some b31 := by kernel_rfl
def SNaN : Spec := fun H args K => ∃ a, args = [.int .i64 a] ∧ K H (.bool false)
theorem appNaN {H : List HObj} {K : List HObj → DV → Prop} {a : Int} (h : K H (.bool false)) : app SNaN H [.int .i64 a] K := ⟨a, rfl, h⟩
theorem rcNaN {I : Jd pp} (hI : ∀ w e, I.Ok w e) : RC I 31 SNaN := by
  refine rc_of_code (isObj := isO) (Γ := envOf []) (rs := [2]) mixed hI (envOf_rc (by simp)) Go.Proofs.Try.func31 (by kernel_rfl) hb31 Go.Proofs.Try.results31 Go.Proofs.Try.ntmps31 (by decide) ?_
  rintro H args K ⟨a, rfl, hK⟩
  refine ⟨by simp, rfl, ?_⟩
  unfold b31 Go.Proofs.Try.f31
  simp only [Option.getD_some, argSlots, vro_int, w_seq, w_region, mk_clean, tS_cons, g_none, hold_app, o_assign, take_const, constDV, mk_put, dropLk, tS_nil, hold_app2, o_move, Nat.reduceLT, move_tmp, movK, Nat.reduceBEq, look_miss, look_hit, vroA_int, o_bin, nil_tmp, Bool.false_eq_true, rho_tmp, b_neq, ne_eq, not_true_eq_false, decide_false, mk_put?_some, take_tmp, takK, vroA_bool, w_ret, ret_one, vfla_bool, true_and, if_false]
  simpa using hK
noncomputable def b23 : Code := (Go.Proofs.Try.f23.body).getD .skip
theorem hb23 : Go.Proofs.Try.f23.body = some b23 := by kernel_rfl
def cmpI (a b : Int) : Int := if a < b then -1 else if b < a then 1 else 0
def SCmp : Spec := fun H args K => ∃ a b, args = [.int .i64 a, .int .i64 b] ∧ K H (.int .i64 (cmpI a b))
theorem appCmp {H : List HObj} {K : List HObj → DV → Prop} {a b : Int} (h : K H (.int .i64 (cmpI a b))) : app SCmp H [.int .i64 a, .int .i64 b] K := ⟨a, b, rfl, h⟩
theorem rcCmp {I : Jd pp} (hI : ∀ w e, I.Ok w e) : RC I 23 SCmp := by
  refine rc_of_code (isObj := isO) (Γ := envOf [(31, SNaN)]) (rs := [4]) mixed hI (envOf_rc (by simpa using rcNaN hI)) Go.Proofs.Try.func23 (by kernel_rfl) hb23 Go.Proofs.Try.results23 Go.Proofs.Try.ntmps23 (by decide) ?_
  rintro H args K ⟨a, b, rfl, hK⟩
  refine ⟨by simp, rfl, ?_⟩
  unfold b23 Go.Proofs.Try.f23
  simp only [Int.reduceNeg, Option.getD_some, argSlots, vro_int, Nat.zero_add, w_seq, w_region, mk_clean, tS_cons, g_none, hold_app, o_assign, take_const, constDV, mk_put, dropLk, tS_nil, hold_app2, o_move, Nat.reduceLT, move_tmp, movK, Nat.reduceBEq, look_miss, look_hit, vroA_int, o_fn, args_cons, rho_tmp, args_nil, mk_H, env_cons, if_true, dcl_some, List.all_cons, vfla_int, List.all_nil, Bool.and_self, List.map_cons, List.map_nil, true_and]
  refine appNaN ?_
  simp only [Int.reduceNeg, hold_app2, mk_called, Pos.isHp, List.filter_nil, mk_put?_some, dropLk, hold_app, tS_cons, g_none, o_assign, Nat.reduceLT, take_tmp, takK, look_hit, vroA_bool, mk_put, tS_nil, w_seq, w_region, mk_clean, o_move, move_tmp, movK, Nat.reduceBEq, look_miss, vroA_int, o_fn, args_cons, rho_tmp, args_nil, mk_H, env_cons, if_true, dcl_some, List.all_cons, vfla_int, List.all_nil, Bool.and_self, List.map_cons, vro_int, List.map_nil, true_and]
  refine appNaN ?_
  simp only [Int.reduceNeg, hold_app2, mk_called, Pos.isHp, List.filter_nil, mk_put?_some, dropLk, hold_app, tS_cons, g_none, o_assign, Nat.reduceLT, take_tmp, takK, look_hit, vroA_bool, mk_put, tS_nil, w_seq, w_region, mk_clean, o_move, move_tmp, movK, Nat.reduceBEq, look_miss, w_cond, rho_tmp, cd, Bool.false_eq_true, take_const, constDV, w_ret, ret_one, vfla_int, true_and, false_implies, w_skip, true_implies, vroA_int, o_bin, nil_tmp, b_lss, b_gtr, if_false]
  refine ⟨fun h => ?_, fun h => ⟨fun h2 => ?_, fun h2 => ?_⟩⟩
  · simpa [cmpI, of_decide_eq_true h] using hK
  · simpa [cmpI, of_decide_eq_false h, of_decide_eq_true h2] using hK
  · simpa [cmpI, of_decide_eq_false h, of_decide_eq_false h2] using hK
noncomputable def b22 : Code := (Go.Proofs.Try.f22.body).getD .skip
theorem hb22 : Go.Proofs.Try.f22.body = some b22 := by kernel_rfl
/-- cmp.Or of two. -/
def SOr : Spec := fun H args K => ∃ own a b, args = [.sl own 1 [.int .i64 a, .int .i64 b]] ∧ K H (.int .i64 (if a = 0 then b else a))
theorem appOr {H : List HObj} {K : List HObj → DV → Prop} {own : Bool} {a b : Int} (h : K H (.int .i64 (if a = 0 then b else a))) : app SOr H [.sl own 1 [.int .i64 a, .int .i64 b]] K := ⟨own, a, b, rfl, h⟩
theorem rcOr {I : Jd pp} (hI : ∀ w e, I.Ok w e) : RC I 22 SOr := by
  refine rc_of_code (isObj := isO) (Γ := envOf []) (rs := [2]) mixed hI (envOf_rc (by simp)) Go.Proofs.Try.func22 (by kernel_rfl) hb22 Go.Proofs.Try.results22 Go.Proofs.Try.ntmps22 (by decide) ?_
  rintro H args K ⟨own, a, b, rfl, hK⟩
  refine ⟨by simp, rfl, ?_⟩
  unfold b22 Go.Proofs.Try.f22
  simp only [Option.getD_some, argSlots, vro_sl, w_seq, w_region, mk_clean, tS_cons, g_none, hold_app, o_assign, take_const, constDV, mk_put, dropLk, tS_nil, hold_app2, o_move, Nat.reduceLT, move_tmp, movK, Nat.reduceBEq, look_miss, look_hit, lkGet, o_len, rho_tmp, dl57, List.length_cons, List.length_nil, Nat.zero_add, Nat.reduceAdd, nc2, mk_put?_some, move_const, vroA_int, w_block]
  refine w_unroll 3 ?_
  simp only [lw_succ, w_seq, w_region, mk_clean, tS_cons, g_none, hold_app, o_bin, nil_tmp, Bool.false_eq_true, Nat.reduceLT, rho_tmp, look_hit, Nat.reduceBEq, look_miss, b_lss, Int.reduceLT, decide_true, mk_put?_some, dropLk, tS_nil, hold_app2, w_cond, cd, w_skip, w_block, o_indexAddr, ix57, Int.reduceLE, List.length_cons, List.length_nil, Nat.zero_add, Nat.reduceAdd, nc2, Int.reduceToNat, List.getD_cons_zero, vcl_int, o_load, ld_vptr, la3, vro_int, lo_int, o_assign, take_tmp, takK, vroA_int, mk_put, o_move, move_tmp, movK, b_neq, ne_eq, w_ret, ret_one, vfla_int, true_and, nil_int, rho_const, constDV, b_add, Int.reduceAdd, Int.reduceNeg, wrap_i64, List.getD_cons_succ, decide_false, false_implies, w_exit, if_true, true_implies, if_false, Bool.true_eq_false, and_true]
  by_cases h : a = 0 <;> by_cases h2 : b = 0 <;> simp [h, h2] at hK ⊢ <;> exact hK
def idxI (xs : List Int) (v : Int) : Int := if v ∈ xs then (xs.idxOf v : Int) else -1
theorem idxI_at {xs : List Int} {v : Int} {i : Nat} (h : i < xs.length) (hv : v ∉ xs.take i) (e : v = xs[i]) : idxI xs v = i := by
  have hm : v ∈ xs := e ▸ List.getElem_mem h
  have h1 : xs.idxOf v < xs.length := List.idxOf_lt_length_iff.2 hm
  have h2 : xs[xs.idxOf v] = v := List.getElem_idxOf h1
  have h3 : ¬ xs.idxOf v < i := fun hl => hv (by rw [List.mem_take_iff_getElem]; exact ⟨xs.idxOf v, by omega, h2⟩)
  have h4 : ¬ i < xs.idxOf v := fun hl => by
    have := List.not_of_lt_findIdx (p := (· == v)) (xs := xs) hl
    simp [e] at this
  have : xs.idxOf v = i := by omega
  simp only [idxI, if_pos hm, this]
noncomputable def b19 : Code := (Go.Proofs.Try.f19.body).getD .skip
theorem hb19 : Go.Proofs.Try.f19.body = some b19 := by kernel_rfl
def SIdx : Spec := fun H args K => ∃ own xs v, args = [.sl own 1 (xs.map (.int .i64)), .int .i64 v] ∧ xs.length < 4611686018427387904 ∧ K H (.int .i64 (idxI xs v))
theorem appIdx {H : List HObj} {K : List HObj → DV → Prop} {own : Bool} {xs : List Int} {v : Int} (h1 : xs.length < 4611686018427387904) (h : K H (.int .i64 (idxI xs v))) : app SIdx H [.sl own 1 (xs.map (.int .i64)), .int .i64 v] K := ⟨own, xs, v, rfl, h1, h⟩
def MIdx (H : List HObj) (xs : List Int) (v : Int) (m : Nat) (st : St) : Prop := ∃ i : Nat, i ≤ xs.length ∧ m = xs.length - i ∧ v ∉ xs.take i ∧ st = mk 19 [(0, .sl false 1 (xs.map (.int .i64))), (1, .int .i64 v), (7, .int .i64 xs.length), (8, .int .i64 i)] [] H []
theorem rcIdx {I : Jd pp} (hI : ∀ w e, I.Ok w e) : RC I 19 SIdx := by
  refine rc_of_code (isObj := isO) (Γ := envOf []) (rs := [4]) mixed hI (envOf_rc (by simp)) Go.Proofs.Try.func19 (by kernel_rfl) hb19 Go.Proofs.Try.results19 Go.Proofs.Try.ntmps19 (by decide) ?_
  rintro H args K ⟨own, xs, v, rfl, hl, hK⟩
  refine ⟨by simp, rfl, ?_⟩
  unfold b19 Go.Proofs.Try.f19
  simp only [Int.reduceNeg, Option.getD_some, argSlots, vro_sl, Nat.zero_add, vro_int, w_seq, w_region, mk_clean, tS_cons, g_none, hold_app, o_assign, take_const, constDV, mk_put, dropLk, tS_nil, hold_app2, o_move, Nat.reduceLT, move_tmp, movK, Nat.reduceBEq, look_miss, look_hit, lkGet, o_len, rho_tmp, dl57, List.length_map, mk_put?_some, move_const, vroA_int, w_block]
  refine w_loop [0, 1, 7, 8] (MIdx H xs v) xs.length ?_ ?_
  · exact ⟨0, by omega, by omega, by simp, by simp only [mk_forget, List.map_cons, Nat.reduceBEq, look_miss, look_hit, List.map_nil, nc0]; try rfl⟩
  · rintro m st ⟨i, hi, rfl, hv, rfl⟩
    by_cases e : i < xs.length
    · have e1 : (i : Int) < xs.length := by omega
      have e2 : (0 : Int) ≤ i := by omega
      have hx : (xs.map (DV.int .i64)).getD i .undef = .int .i64 xs[i] := by simp [List.getD, e]
      have wi : IntKind.i64.wrap ((i : Int) + 1) = ((i + 1 : Nat) : Int) := by rw [wrap_i64 (by omega) (by omega)]; omega
      simp only [Int.reduceNeg, w_seq, w_region, mk_clean, tS_cons, g_none, hold_app, o_bin, nil_tmp, Bool.false_eq_true, Nat.reduceLT, rho_tmp, Nat.reduceBEq, look_miss, look_hit, b_lss, e1, decide_true, mk_put?_some, dropLk, tS_nil, hold_app2, w_cond, cd, w_skip, w_block, o_move, move_tmp, movK, vroA_int, o_assign, take_tmp, takK, mk_put, lkGet, o_indexAddr, ix57, e2, List.length_map, Int.toNat_natCast, hx, vcl_int, o_load, ld_vptr, la3, vro_int, lo_int, b_eql, w_ret, ret_one, vfla_int, true_and, nil_int, rho_const, constDV, b_add, wi, mk_forget, List.map_cons, List.map_nil, if_false, true_implies, Bool.true_eq_false, w_exit, take_const, if_true, false_implies, and_true]
      refine ⟨fun h => ?_, fun h => ⟨_, ?_, i + 1, by omega, rfl, ?_, rfl⟩⟩
      · rw [idxI_at e hv (of_decide_eq_true h)] at hK; exact hK
      · omega
      · rw [List.take_succ_eq_append_getElem e, List.mem_append, not_or]
        exact ⟨hv, by simpa using of_decide_eq_false h⟩
    · have e0 : i = xs.length := by omega
      subst e0
      simp only [Int.reduceNeg, w_seq, w_region, mk_clean, tS_cons, g_none, hold_app, o_bin, nil_tmp, Bool.false_eq_true, Nat.reduceLT, rho_tmp, Nat.reduceBEq, look_miss, look_hit, b_lss, Int.lt_irrefl, decide_false, mk_put?_some, dropLk, tS_nil, hold_app2, w_cond, cd, w_skip, w_block, o_move, move_tmp, movK, vroA_int, o_assign, take_tmp, takK, mk_put, lkGet, o_indexAddr, ix57, Int.toNat_natCast, o_load, ld_vptr, false_implies, w_exit, take_const, constDV, w_ret, ret_one, vfla_int, true_and, if_true, true_implies, if_false]
      rw [List.take_length] at hv
      simpa [idxI, hv] using hK
end Go.Ab.Or
