/- A part of the proofs that a law function returns true at every input; it has no condition of its own. -/
import Derived.Test.YtcljbddnnnbihaaShR
set_option linter.unusedSimpArgs false
set_option linter.unusedVariables false
/- ShR2: The reference shelf: without, with. -/
namespace Go.Ab.Sh
open Go Go.Conc Go.RowKit Go.Ab
set_option maxRecDepth 10000
def withoutF (l : Files) (s : Str) : Files := l.filter fun x => decide (x.1 ≠ s)
theorem withoutF_take (l : Files) (s : Str) (i : Nat) (hi : i < l.length) : withoutF (l.take (i + 1)) s = withoutF (l.take i) s ++ (if l[i].1 = s then [] else [l[i]]) := by
  rw [List.take_succ_eq_append_getElem hi]
  simp only [withoutF, List.filter_append]
  congr 1
  by_cases h : l[i].1 = s <;> simp [h]
theorem withoutF_len (l : Files) (s : Str) : (withoutF l s).length ≤ l.length := List.length_filter_le _ _
noncomputable def b51 : Code := (Go.Proofs.Try.f51.body).getD .skip
theorem hb51 : Go.Proofs.Try.f51.body = some b51 := by kernel_rfl
/-- without. -/
def S51 : Spec := fun H args K => ∃ own l s, args = [.sl own 2 (List.map fileD l), .str s] ∧ l.length < 100000 ∧ K H (.sl true 2 (List.map fileD (withoutF l s)))
theorem app51 {H : List HObj} {K : List HObj → DV → Prop} {own : Bool} {l : Files} {s : Str} (h1 : l.length < 100000) (h : K H (.sl true 2 (List.map fileD (withoutF l s)))) : app S51 H [.sl own 2 (List.map fileD l), .str s] K := ⟨own, l, s, rfl, h1, h⟩
def M51 (l : Files) (s : Str) (H : List HObj) (m : Nat) (st : St) : Prop := ∃ i : Nat, i ≤ l.length ∧ m = l.length - i ∧ st = mk 28 [(0, .sl false 2 (l.map fileD)), (1, .str s), (4, .sl true 2 []), (5, .sl true 2 (List.map fileD (withoutF (l.take i) s))), (6, .int .i64 i)] [] H []
theorem rc51 {I : Jd pp} (hI : ∀ w e, I.Ok w e) : RC I 51 S51 := by
  refine rc_of_code (isObj := isO) (Γ := envOf []) (rs := [4]) mixed hI (envOf_rc (by simp)) Go.Proofs.Try.func51 (by kernel_rfl) hb51 Go.Proofs.Try.results51 Go.Proofs.Try.ntmps51 (by decide) ?_
  rintro H args K ⟨own, l, s, rfl, hlen, hK⟩
  refine ⟨by simp, rfl, ?_⟩
  unfold b51 Go.Proofs.Try.f51
  simp only [Option.getD_some, argSlots, DV.ro, Nat.zero_add, w_seq, w_region, mk_clean, tS_cons, g_none, hold_app, o_assign, take_const, constDV, Proofs.Try.underlying58, cn75, mk_put, dropLk, tS_nil, hold_app2, w_block]
  refine w_loop [0, 1, 4, 5, 6] (M51 l s H) l.length ?_ ?_
  · exact ⟨0, by omega, by omega, by simp only [mk_forget, List.map_cons, Nat.reduceBEq, look_miss, look_hit, List.map_nil, List.take_zero]; simp [withoutF]⟩
  · rintro m st ⟨i, hi, rfl, rfl⟩
    simp only [w_seq, w_region, mk_clean, tS_cons, g_none, hold_app, o_move, Nat.reduceLT, move_tmp, movK, Nat.reduceBEq, look_miss, look_hit, DV.roA, DV.ro, dropLk, lkGet, o_len, rho_tmp, dl58, List.length_map, mk_put?_some, o_bin, nil_tmp, Bool.false_eq_true, b_lss, tS_nil, hold_app2, w_cond, cd, decide_eq_true_eq, w_skip, w_block, o_indexAddr, ix58, DV.cells, Int.toNat_natCast, o_fieldAddr, fv75_0, List.drop_zero, o_load, ld_vptr, decide_eq_false_iff_not, w_exit, Nat.reduceEqDiff, if_false, o_assign, take_tmp, takK, if_true, own_slot, part_sl, ownSz_t, un_slot, mk_put, Pos.atSlot, Bool.or_false, w_ret, ret_one, DV.flat, true_and]
    refine ⟨fun e => ?_, fun e => ?_⟩
    · have hl : i < l.length := by omega
      have hst := withoutF_take l s i hl
      have hle := withoutF_len (l.take i) s
      have hle2 : (l.take i).length ≤ l.length := List.length_take_le' _ _
      simp only [fileD_at hl, la9, DV.ro, hold_app, Nat.reduceLT, rho_tmp, look_hit, lo_str, dropLk, tS_cons, g_none, o_move, move_tmp, movK, Nat.reduceBEq, look_miss, DV.roA, o_bin, nil_tmp, Bool.false_eq_true, s_neq, ne_eq, mk_put?_some, tS_nil, hold_app2, w_cond, cd, decide_eq_true_eq, w_region, mk_clean, Nat.reduceEqDiff, if_false, lkGet, reduceCtorEq, Pos.atSlot, Bool.or_false, o_indexAddr, ix58, List.length_map, DV.cells, Int.toNat_natCast, o_load, ld_vptr, la75, List.length_cons, List.length_nil, Nat.zero_add, Nat.reduceAdd, Nat.reduceLeDiff, List.take_succ_cons, List.take_zero, List.map_cons, DV.ro1, List.map_nil, lo_agg, bs58, List.all_cons, DV.scalar, List.all_nil, Bool.and_self, mk_put, o_append, ap58, take_tmp, takK, if_true, own_slot, part_sl, ownSz_t, un_slot, apd_own, o_assign, Bool.or_true, nil_int, rho_const, constDV, b_add, mk_forget, true_and, decide_eq_false_iff_not, w_skip]
      refine ⟨by omega, by omega, fun h => ⟨by omega, by omega, by omega, by omega, l.length - (i + 1), by omega, i + 1, by omega, rfl, ?_⟩, fun h => ⟨l.length - (i + 1), by omega, i + 1, by omega, rfl, ?_⟩⟩
      · rw [wrap_i64 (by omega) (by omega), hst, if_neg h]; simp [fileD]
      · rw [wrap_i64 (by omega) (by omega), hst, if_pos (Classical.not_not.1 h)]; simp
    · have e2 : i = l.length := by omega
      subst e2
      simpa using hK

noncomputable def b50 : Code := (Go.Proofs.Try.f50.body).getD .skip
theorem hb50 : Go.Proofs.Try.f50.body = some b50 := by kernel_rfl
def insF (f : Str × Str) : Files → Files
  | [] => [f]
  | x :: r => if Op.bytesLess f.1 x.1 = true then f :: x :: r else x :: insF f r
def withF (l : Files) (f : Str × Str) : Files := insF f (withoutF l f.1)

def stepF (f : Str × Str) (p : Files × Bool) (x : Str × Str) : Files × Bool := if (!p.2 && Op.bytesLess f.1 x.1) = true then (p.1 ++ [f] ++ [x], true) else (p.1 ++ [x], p.2)
def runF (f : Str × Str) (l : Files) : Files × Bool := l.foldl (stepF f) ([], false)
theorem runF_true (f : Str × Str) : ∀ (l o : Files), l.foldl (stepF f) (o, true) = (o ++ l, true)
  | [], o => by simp
  | x :: r, o => by simp [stepF, runF_true f r]
theorem runF_fin (f : Str × Str) : ∀ (l o : Files), (if (l.foldl (stepF f) (o, false)).2 = true then (l.foldl (stepF f) (o, false)).1 else (l.foldl (stepF f) (o, false)).1 ++ [f]) = o ++ insF f l
  | [], o => by simp [insF]
  | x :: r, o => by
    by_cases h : Op.bytesLess f.1 x.1 = true
    · simp [stepF, h, runF_true, insF]
    · have := runF_fin f r (o ++ [x])
      simp only [List.foldl_cons, stepF, h, Bool.not_false, Bool.and_false, Bool.true_and, Bool.false_eq_true, if_false, insF]
      simpa using this
theorem runF_take (f : Str × Str) (l : Files) (i : Nat) (hi : i < l.length) : runF f (l.take (i + 1)) = stepF f (runF f (l.take i)) l[i] := by
  rw [List.take_succ_eq_append_getElem hi]
  simp only [runF, List.foldl_append, List.foldl_cons, List.foldl_nil]
theorem runF_len (f : Str × Str) : ∀ (l : Files) (p : Files × Bool), (l.foldl (stepF f) p).1.length ≤ p.1.length + 2 * l.length
  | [], p => by simp
  | x :: r, p => by
    have := runF_len f r (stepF f p x)
    have h : (stepF f p x).1.length ≤ p.1.length + 2 := by unfold stepF; split <;> simp
    simp only [List.foldl_cons, List.length_cons]; omega
/-- with. -/
def S50 : Spec := fun H args K => ∃ own l f, args = [.sl own 2 (List.map fileD l), .agg [.str f.1, .str f.2]] ∧ l.length < 100000 ∧ K H (.sl true 2 (List.map fileD (withF l f)))
theorem app50 {H : List HObj} {K : List HObj → DV → Prop} {own : Bool} {l : Files} (f : Str × Str) (h1 : l.length < 100000) (h : K H (.sl true 2 (List.map fileD (withF l f)))) : app S50 H [.sl own 2 (List.map fileD l), .agg [.str f.1, .str f.2]] K := ⟨own, l, f, rfl, h1, h⟩
def M50 (rest : Files) (f : Str × Str) (H : List HObj) (m : Nat) (st : St) : Prop := ∃ i : Nat, i ≤ rest.length ∧ m = rest.length - i ∧ st = mk 49 [(3, .lptr 3 0 0), (5, .sl true 2 (List.map fileD (runF f (rest.take i)).1)), (6, .bool (runF f (rest.take i)).2), (7, .sl true 2 (rest.map fileD)), (8, .int .i64 i)] [(3, 0, [.str f.1, .str f.2])] H []
theorem rc50 {I : Jd pp} (hI : ∀ w e, I.Ok w e) : RC I 50 S50 := by
  refine rc_of_code (isObj := isO) (Γ := envOf [(51, S51)]) (rs := [4]) mixed hI (envOf_rc (by simpa using rc51 hI)) Go.Proofs.Try.func50 (by kernel_rfl) hb50 Go.Proofs.Try.results50 Go.Proofs.Try.ntmps50 (by decide) ?_
  rintro H args K ⟨own, l, f, rfl, hlen, hK⟩
  refine ⟨by simp, rfl, ?_⟩
  unfold b50 Go.Proofs.Try.f50
  simp only [Option.getD_some, argSlots, DV.ro, Nat.zero_add, List.map_cons, DV.ro1, List.map_nil, w_seq, w_region, mk_clean, tS_cons, g_none, hold_app, o_box, DV.cells, Nat.reduceLT, take_tmp, takK, Nat.reduceBEq, look_miss, look_hit, List.all_cons, DV.scalar, List.all_nil, Bool.and_self, nv75, bgen_eq, bget_nil, bset_nil, dropLk, o_assign, take_const, constDV, Proofs.Try.underlying58, cn75, mk_put, tS_nil, hold_app2, o_move, move_tmp, movK, lkGet, o_fieldAddr, rho_tmp, fl75_0, Nat.add_zero, mk_put?_some, o_load, ld_b, bget_cons, if_true, dlb_some, List.drop_zero, la9, lo_str, o_fn, args_cons, args_nil, mk_H, env_cons, dcl_some, DV.flat, true_and]
  refine app51 hlen ?_
  have hrl := withoutF_len l f.1
  generalize hrest : withoutF l f.1 = rest at *
  have hK : K H (.sl true 2 (List.map fileD (insF f rest))) := by simpa [withF, hrest] using hK
  simp only [hold_app2, mk_called, Pos.isHp, List.filter_nil, mk_put?_some, dropLk, hold_app, tS_cons, g_none, o_assign, Nat.reduceLT, take_tmp, takK, look_hit, mk_put, tS_nil, w_seq, w_region, mk_clean, take_const, constDV, w_block]
  refine w_loop [3, 5, 6, 7, 8] (M50 rest f H) rest.length ?_ ?_
  · exact ⟨0, by omega, by omega, by simp only [mk_forget, List.map_cons, Nat.reduceBEq, look_miss, look_hit, List.map_nil, List.take_zero]; simp [runF]⟩
  · rintro m st ⟨i, hi, rfl, rfl⟩
    have hrn : (runF f (rest.take i)).1.length ≤ 2 * rest.length := by
      have := runF_len f (rest.take i) ([], false)
      have := List.length_take_le' i rest
      simp only [runF]; simp at *; omega
    simp only [w_seq, w_region, mk_clean, tS_cons, g_none, hold_app, o_move, Nat.reduceLT, move_tmp, movK, Nat.reduceBEq, look_miss, look_hit, DV.roA, DV.ro, dropLk, Nat.reduceEqDiff, if_false, o_len, rho_tmp, dl58, List.length_map, mk_put?_some, Pos.atSlot, Bool.or_false, Bool.false_eq_true, o_bin, nil_tmp, b_lss, tS_nil, hold_app2, w_cond, cd, decide_eq_true_eq, w_skip, w_block, decide_eq_false_iff_not, w_exit, o_un, u_not, o_load, ld_b, bget_cons, bget_nil, if_true, dlb_some, List.drop_zero, la75, List.length_cons, List.length_nil, Nat.zero_add, Nat.reduceAdd, Nat.reduceLeDiff, List.take_succ_cons, List.take_zero, List.map_cons, DV.ro1, List.map_nil, lo_agg, bs58, DV.cells, List.all_cons, DV.scalar, List.all_nil, Bool.and_self, mk_put, o_append, ap58, take_tmp, takK, lkGet, own_slot, part_sl, ownSz_t, un_slot, apd_own, o_assign, Bool.or_true, w_ret, ret_one, DV.flat, true_and]
    refine ⟨fun e => ?_, fun e => ?_⟩
    · have hl : i < rest.length := by omega
      have hst := runF_take f rest i hl
      refine w_draw [] (.quiet 0 (.quiet 1 (.quiet 2 (.quiet 3 (.quiet 4 (.quiet 5 (.quiet 6 (.quiet 7 (.quiet 8 (.quiet 9 (.quiet 10 (.quiet 11 (.done))))))))))))) (by decide) (by kernel_rfl) ?_
      generalize hp : runF f (rest.take i) = pr at *
      obtain ⟨o, d⟩ := pr
      simp only [mk_clean, rp_quiet, rpQ_zero, g_none, hold_app, q_move, DV.roA, Nat.reduceLT, rho_tmp, Nat.reduceBEq, look_miss, look_hit, DV.ro, ex_eq, mk_put, dropLk, rpQ_succ, q_un, u_not, g_some, gq_succ, gq_zero, gs1_eq, gs2_bool, mk_setT, q_fieldAddr, fl75_0, Nat.add_zero, q_load, ld_b, bget_cons, bget_nil, if_true, dlb_some, List.drop_zero, la9, true_and, q_indexAddr, ix58, List.length_map, DV.cells, Int.toNat_natCast, fileD_at hl, ex_and, fv75_0, ld_vptr, q_bin, s_lss, q_pick, rho_const, constDV, pk, rp_done, hold_app2, w_cond, cd, w_seq, w_region, tS_cons, o_move, move_tmp, movK, Nat.reduceEqDiff, if_false, o_load, la75, List.length_cons, List.length_nil, Nat.zero_add, Nat.reduceAdd, Nat.reduceLeDiff, List.take_succ_cons, List.take_zero, List.map_cons, DV.ro1, List.map_nil, lo_agg, Pos.atSlot, Bool.or_false, Bool.false_eq_true, bs58, List.all_cons, DV.scalar, List.all_nil, Bool.and_self, o_append, ap58, take_tmp, takK, lkGet, own_slot, part_sl, ownSz_t, un_slot, apd_own, o_assign, Bool.or_true, tS_nil, take_const, o_indexAddr, mk_put?_some, List.append_assoc, List.cons_append, List.nil_append, o_bin, nil_int, b_add, mk_forget, w_skip, true_implies, Bool.not_true, Bool.true_eq_false, false_implies, and_true]
      have hrn : o.length ≤ 2 * rest.length := hrn
      have hM : ∀ (o' : Files) (d' : Bool), runF f (rest.take (i + 1)) = (o', d') → ∃ m', m' < rest.length - i ∧ M50 rest f H m' (mk 49 [(3, .lptr 3 0 0), (5, .sl true 2 (List.map fileD o')), (6, .bool d'), (7, .sl true 2 (rest.map fileD)), (8, .int .i64 (IntKind.i64.wrap ((i : Int) + 1)))] [(3, 0, [.str f.1, .str f.2])] H []) := by
        intro o' d' h
        refine ⟨rest.length - (i + 1), by omega, i + 1, by omega, rfl, ?_⟩
        rw [wrap_i64 (by omega) (by omega), h]; rfl
      cases d with
      | true =>
        refine ⟨fun h => by simp at h, fun _ => ⟨by omega, by omega, by omega, by omega, ?_⟩⟩
        have := hM (o ++ [rest[i]]) true (by rw [hst]; simp [stepF])
        simpa [fileD] using this
      | false =>
        refine ⟨fun _ => ⟨by omega, by omega, fun h => ⟨by omega, by omega, by omega, by omega, by simp; omega, by simp; omega, ?_⟩, fun h => ⟨by omega, by omega, by omega, by omega, ?_⟩⟩, fun h => by simp at h⟩
        · have := hM (o ++ [f] ++ [rest[i]]) true (by rw [hst]; simp [stepF, h])
          simpa [fileD] using this
        · have := hM (o ++ [rest[i]]) false (by rw [hst]; simp [stepF, h])
          simpa [fileD] using this
    · have e2 : i = rest.length := by omega
      subst e2
      have hfin := runF_fin f rest []
      rw [List.take_length] at *
      change (if (runF f rest).2 = true then (runF f rest).1 else (runF f rest).1 ++ [f]) = _ at hfin
      generalize runF f rest = pr at *
      obtain ⟨o, d⟩ := pr
      simp only [List.nil_append] at hfin
      rw [← hfin] at hK
      have hrn : o.length ≤ 2 * rest.length := hrn
      have hrl : rest.length ≤ l.length := hrl
      have hol : (o : List (Str × Str)).length < 400000 := by omega
      cases d with
      | true => exact ⟨fun h => by simp at h, fun _ => by simpa using hK⟩
      | false => exact ⟨fun _ => ⟨by simp; omega, by simp; omega, by simpa [fileD] using hK⟩, fun h => by simp at h⟩
end Go.Ab.Sh
