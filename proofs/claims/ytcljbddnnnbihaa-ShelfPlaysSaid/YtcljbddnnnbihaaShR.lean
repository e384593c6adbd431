/- A part of the proofs that a law function returns true at every input; it has no condition of its own. -/
import Derived.Test.YtcljbddnnnbihaaShZ0
set_option linter.unusedSimpArgs false
set_option linter.unusedVariables false
/- ShR: The reference shelf: small functions. -/
namespace Go.Ab.Sh
open Go Go.Conc Go.RowKit Go.Ab
set_option maxRecDepth 10000
def fileD (f : Str × Str) : DV := .agg [.str f.1, .str f.2]
def refC (l kept : Files) (acts : List Act) (most : Int) : List DV := [.sl false 2 (l.map fileD), .sl false 2 (kept.map fileD), .sl false 3 (acts.map actD), .int .i64 most]
def RefAt (H : List HObj) (id : Nat) (l kept : Files) (acts : List Act) (most : Int) : Prop := H[id]? = some (.cells (refC l kept acts most))
theorem fileD_at {l : Files} {i : Nat} (h : i < l.length) : (l.map fileD).getD i .undef = .agg [.str l[i].1, .str l[i].2] := by
  simp [List.getD, h, fileD]
def findI (l : Files) (s : Str) : Int := match l with
  | [] => -1
  | (x, _) :: r => if x = s then 0 else if findI r s < 0 then -1 else findI r s + 1
theorem findI_split (s : Str) : ∀ (l : Files) (i : Nat) (hi : i < l.length), (∀ j (hj : j < i), (l[j]'(by omega)).1 ≠ s) → l[i].1 = s → findI l s = i
  | [], i, hi, _, _ => by simp at hi
  | (x, v) :: r, 0, hi, _, h2 => by simp at h2; simp [findI, h2]
  | (x, v) :: r, i + 1, hi, h1, h2 => by
    have h0 : x ≠ s := h1 0 (by omega)
    have := findI_split s r i (by simpa using hi) (fun j hj => h1 (j + 1) (by omega)) (by simpa using h2)
    simp only [findI, h0, if_false, this]
    rw [if_neg (by omega)]; omega
theorem findI_none (s : Str) : ∀ (l : Files), (∀ j (hj : j < l.length), l[j].1 ≠ s) → findI l s = -1
  | [], _ => rfl
  | (x, v) :: r, h1 => by
    have h0 : x ≠ s := h1 0 (by simp)
    have := findI_none s r (fun j hj => h1 (j + 1) (by simpa using hj))
    simp [findI, h0, this]

noncomputable def b38 : Code := (Go.Proofs.Try.f38.body).getD .skip
theorem hb38 : Go.Proofs.Try.f38.body = some b38 := by kernel_rfl
/-- find. -/
def S38 : Spec := fun H args K => ∃ own l s, args = [.sl own 2 (List.map fileD l), .str s] ∧ l.length < 4611686018427387904 ∧ K H (.int .i64 (findI l s))
theorem app38 {H : List HObj} {K : List HObj → DV → Prop} {own : Bool} {l : Files} {s : Str} (h1 : l.length < 4611686018427387904) (h : K H (.int .i64 (findI l s))) : app S38 H [.sl own 2 (List.map fileD l), .str s] K := ⟨own, l, s, rfl, h1, h⟩
def M38 (own : Bool) (l : Files) (s : Str) (H : List HObj) (m : Nat) (st : St) : Prop := ∃ i : Nat, i ≤ l.length ∧ m = l.length - i ∧ (∀ j (hj : j < i) (h : j < l.length), l[j].1 ≠ s) ∧ st = mk 20 [(0, .sl false 2 (l.map fileD)), (1, .str s), (4, .int .i64 0), (5, .int .i64 i)] [] H []
theorem rc38 {I : Jd pp} (hI : ∀ w e, I.Ok w e) : RC I 38 S38 := by
  refine rc_of_code (isObj := isO) (Γ := envOf []) (rs := [4]) mixed hI (envOf_rc (by simp)) Go.Proofs.Try.func38 (by kernel_rfl) hb38 Go.Proofs.Try.results38 Go.Proofs.Try.ntmps38 (by decide) ?_
  rintro H args K ⟨own, l, s, rfl, hlen, hK⟩
  refine ⟨by simp, rfl, ?_⟩
  unfold b38 Go.Proofs.Try.f38
  simp only [Option.getD_some, argSlots, DV.ro, Nat.zero_add, w_seq, w_region, mk_clean, tS_cons, g_none, hold_app, o_assign, take_const, constDV, mk_put, dropLk, tS_nil, hold_app2, w_block]
  refine w_loop [0, 1, 4, 5] (M38 own l s H) l.length ?_ ?_
  · exact ⟨0, by omega, by omega, by intro j hj; omega, by simp only [mk_forget, List.map_cons, Nat.reduceBEq, look_miss, look_hit, List.map_nil]; rfl⟩
  · rintro m st ⟨i, hi, rfl, hj, rfl⟩
    simp only [w_seq, w_region, mk_clean, tS_cons, g_none, hold_app, o_move, Nat.reduceLT, move_tmp, movK, Nat.reduceBEq, look_miss, look_hit, DV.roA, DV.ro, dropLk, lkGet, o_len, rho_tmp, dl58, List.length_map, mk_put?_some, o_bin, nil_tmp, Bool.false_eq_true, b_lss, tS_nil, hold_app2, w_cond, cd, decide_eq_true_eq, w_skip, w_block, o_indexAddr, ix58, DV.cells, Int.toNat_natCast, o_fieldAddr, fv75_0, List.drop_zero, o_load, ld_vptr, decide_eq_false_iff_not, w_exit, o_assign, take_const, constDV, mk_put, w_ret, ret_one, DV.flat, true_and, if_true, if_false]
    refine ⟨fun h1 => ?_, fun h1 => ?_⟩
    · have hl : i < l.length := by omega
      simp only [fileD_at hl, la9, DV.ro, hold_app, Nat.reduceLT, rho_tmp, look_hit, lo_str, dropLk, tS_cons, g_none, o_move, move_tmp, movK, Nat.reduceBEq, look_miss, DV.roA, o_bin, nil_tmp, Bool.false_eq_true, s_eql, mk_put?_some, tS_nil, hold_app2, w_cond, cd, decide_eq_true_eq, w_seq, w_region, mk_clean, o_assign, take_tmp, takK, mk_put, w_ret, ret_one, DV.flat, true_and, decide_eq_false_iff_not, w_skip, nil_int, rho_const, constDV, b_add, mk_forget, List.map_cons, List.map_nil, if_false]
      refine ⟨by omega, by omega, fun h2 => ?_, fun h2 => ⟨l.length - (i + 1), by omega, i + 1, by omega, rfl, fun j hj' h => ?_, by rw [wrap_i64 (by omega) (by omega)]; rfl⟩⟩
      · rw [findI_split s l i hl (fun j hj' => hj j hj' (by omega)) h2] at hK
        exact hK
      · rcases Nat.lt_succ_iff_lt_or_eq.1 hj' with h' | rfl
        · exact hj j h' h
        · exact h2
    · rw [findI_none s l fun j hj' => hj j (by omega) hj'] at hK
      exact hK

noncomputable def b45 : Code := (Go.Proofs.Try.f45.body).getD .skip
theorem hb45 : Go.Proofs.Try.f45.body = some b45 := by kernel_rfl
theorem usedF_take : ∀ (l : Files) (i : Nat) (hi : i < l.length), usedF (l.take (i + 1)) = usedF (l.take i) + l[i].2.length
  | [], i, hi => by simp at hi
  | (x, v) :: r, 0, hi => by simp [usedF]
  | (x, v) :: r, i + 1, hi => by
    have := usedF_take r i (by simpa using hi)
    simp only [List.take_succ_cons, usedF, this, List.getElem_cons_succ]; omega
theorem usedF_take_le (l : Files) (i : Nat) : usedF (l.take i) ≤ usedF l := by
  induction l generalizing i with
  | nil => simp
  | cons a r ih =>
    obtain ⟨x, v⟩ := a
    cases i with
    | zero => simp [usedF]
    | succ i => have := ih i; simp only [List.take_succ_cons, usedF]; omega
/-- ref's Used. -/
def S45 : Spec := fun H args K => ∃ id l kept acts most, args = [.ptr id 0] ∧ RefAt H id l kept acts most ∧ l.length < 4611686018427387904 ∧ usedF l < 4611686018427387904 ∧ K H (.int .i64 (usedF l))
theorem app45 {H : List HObj} {K : List HObj → DV → Prop} {id : Nat} {l kept : Files} {acts : List Act} {most : Int} (h0 : RefAt H id l kept acts most) (h1 : l.length < 4611686018427387904) (h2 : usedF l < 4611686018427387904) (h : K H (.int .i64 (usedF l))) : app S45 H [.ptr id 0] K := ⟨id, l, kept, acts, most, rfl, h0, h1, h2, h⟩
def M45 (id : Nat) (l : Files) (H : List HObj) (m : Nat) (st : St) : Prop := ∃ i : Nat, i ≤ l.length ∧ m = l.length - i ∧ st = mk 26 [(0, .ptr id 0), (3, .int .i64 (usedF (l.take i))), (4, .int .i64 i)] [] H []
theorem rc45 {I : Jd pp} (hI : ∀ w e, I.Ok w e) : RC I 45 S45 := by
  refine rc_of_code (isObj := isO) (Γ := envOf []) (rs := [2]) mixed hI (envOf_rc (by simp)) Go.Proofs.Try.func45 (by kernel_rfl) hb45 Go.Proofs.Try.results45 Go.Proofs.Try.ntmps45 (by decide) ?_
  rintro H args K ⟨id, l, kept, acts, most, rfl, h1, hlen, hu, hK⟩
  have h1 : H[id]? = some (.cells (refC l kept acts most)) := h1
  refine ⟨by simp, rfl, ?_⟩
  unfold b45 Go.Proofs.Try.f45
  simp only [Option.getD_some, argSlots, DV.ro, w_seq, w_region, mk_clean, tS_cons, g_none, hold_app, o_assign, take_const, constDV, mk_put, dropLk, tS_nil, hold_app2, w_block]
  refine w_loop [0, 3, 4] (M45 id l H) l.length ?_ ?_
  · exact ⟨0, by omega, by omega, by simp only [mk_forget, List.map_cons, Nat.reduceBEq, look_miss, look_hit, List.map_nil, List.take_zero]; simp [usedF]⟩
  · rintro m st ⟨i, hi, rfl, rfl⟩
    simp only [w_seq, w_region, mk_clean, tS_cons, g_none, hold_app, o_move, Nat.reduceLT, move_tmp, movK, Nat.reduceBEq, look_miss, look_hit, DV.roA, DV.ro, dropLk, o_nilCheck, dnil, rho_tmp, mk_put?_some, o_fieldAddr, fp61_0, Nat.add_zero, o_load, ld_h, h1, refC, dlh_some, List.drop_zero, la58, lo_sl, addrPos, ia58, Bool.false_eq_true, if_false, o_len, dl58, List.length_map, Pos.atSlot, Bool.or_false, o_bin, nil_tmp, b_lss, tS_nil, hold_app2, w_cond, cd, decide_eq_true_eq, w_skip, w_block, o_indexAddr, ix58, DV.cells, Int.toNat_natCast, fv75_1, ld_vptr, decide_eq_false_iff_not, w_exit, o_assign, take_tmp, takK, mk_put, w_ret, ret_one, DV.flat, true_and, if_true]
    refine ⟨fun e => ?_, fun e => ?_⟩
    · have hl : i < l.length := by omega
      have hle := usedF_take_le l (i + 1)
      have hst := usedF_take l i hl
      simp only [fileD_at hl, List.drop_succ_cons, List.drop_zero, la9, DV.ro, hold_app, Nat.reduceLT, rho_tmp, look_hit, lo_str, dropLk, Nat.reduceBEq, Pos.atSlot, Bool.or_false, Bool.false_eq_true, if_false, tS_cons, g_none, o_len, dl9, mk_put?_some, o_bin, nil_tmp, look_miss, b_add, o_assign, take_tmp, takK, DV.roA, mk_put, tS_nil, hold_app2, w_region, mk_clean, o_move, move_tmp, movK, nil_int, rho_const, constDV, mk_forget, List.map_cons, List.map_nil]
      refine ⟨by omega, by omega, l.length - (i + 1), by omega, i + 1, by omega, rfl, ?_⟩
      rw [wrap_i64 (by omega) (by omega), wrap_i64 (by omega) (by omega), hst]
      simp
    · have e2 : i = l.length := by omega
      subst e2
      simpa using hK
noncomputable def b39 : Code := (Go.Proofs.Try.f39.body).getD .skip
theorem hb39 : Go.Proofs.Try.f39.body = some b39 := by kernel_rfl
/-- ref's Left. -/
def S39 : Spec := fun H args K => ∃ id l kept acts most, args = [.ptr id 0] ∧ RefAt H id l kept acts most ∧ l.length < 4611686018427387904 ∧ usedF l < 4611686018427387904 ∧ 0 ≤ most ∧ most < 4611686018427387904 ∧ K H (.int .i64 (max (most - usedF l) 0))
theorem app39 {H : List HObj} {K : List HObj → DV → Prop} {id : Nat} {l kept : Files} {acts : List Act} {most : Int} (h0 : RefAt H id l kept acts most) (h1 : l.length < 4611686018427387904) (h2 : usedF l < 4611686018427387904) (h3 : 0 ≤ most) (h4 : most < 4611686018427387904) (h : K H (.int .i64 (max (most - usedF l) 0))) : app S39 H [.ptr id 0] K := ⟨id, l, kept, acts, most, rfl, h0, h1, h2, h3, h4, h⟩
theorem rc39 {I : Jd pp} (hI : ∀ w e, I.Ok w e) : RC I 39 S39 := by
  refine rc_of_code (isObj := isO) (Γ := envOf [(45, S45)]) (rs := [2]) mixed hI (envOf_rc (by simpa using rc45 hI)) Go.Proofs.Try.func39 (by kernel_rfl) hb39 Go.Proofs.Try.results39 Go.Proofs.Try.ntmps39 (by decide) ?_
  rintro H args K ⟨id, l, kept, acts, most, rfl, hs, h5, h6, h7, h8, hK⟩
  have h1 : H[id]? = some (.cells (refC l kept acts most)) := hs
  refine ⟨by simp, rfl, ?_⟩
  unfold b39 Go.Proofs.Try.f39
  simp only [Option.getD_some, argSlots, DV.ro, w_seq, w_region, mk_clean, tS_cons, g_none, hold_app, o_assign, take_const, constDV, mk_put, dropLk, tS_nil, hold_app2]
  refine w_draw [5, 8] (.quiet 0 (.quiet 1 (.quiet 2 (.quiet 3 (.quiet 4 (.acts [(5, [3, 2, 1, 0], .quiet 6 (.quiet 7 (.acts [(8, [], .done)])))])))))) (by decide) (by kernel_rfl) ?_
  simp only [mk_clean, rp_quiet, rpQ_zero, g_none, hold_app, q_move, DV.roA, Nat.reduceLT, rho_tmp, Nat.reduceBEq, look_miss, look_hit, DV.ro, ex_eq, mk_put, dropLk, rpQ_succ, q_nilCheck, dnil, q_fieldAddr, fp61_3, Nat.zero_add, q_load, ld_h, h1, refC, dlh_some, List.drop_succ_cons, List.drop_zero, la3, rp_acts, ra_cons, rpA_succ, rpA_zero, o_fn, args_cons, args_nil, mk_H, env_cons, if_true, dcl_some, List.all_cons, DV.flat, List.all_nil, Bool.and_self, List.map_cons, List.map_nil, true_and, ra_nil, and_true]
  refine app45 hs h5 h6 ?_
  simp only [hold_app2, mk_called, Pos.isHp, List.filter_nil, mk_put?_some, dropLk, hold_app, rcA_cons, rcW_succ, rcW_zero, g_none, Nat.reduceLT, mk_t, Nat.reduceBEq, look_miss, look_hit, q_load, rho_tmp, ld_h, h1, refC, dlh_some, List.drop_succ_cons, List.drop_zero, la3, DV.ro, q_fieldAddr, fp61_3, Nat.zero_add, q_nilCheck, dnil, q_move, DV.roA, rcA_nil, and_true, slL_cons, slW_succ, slW_zero, slL_nil, mk_unlink, dropLks, rp_quiet, rpQ_succ, rpQ_zero, q_bin, b_sub, ex_eq, mk_put, q_max, rho_const, constDV, m_max, rp_acts, ra_cons, rpA_succ, rpA_zero, o_assign, take_tmp, takK, rp_done, w_ret, ret_one, DV.flat, true_and, ra_nil]
  rw [wrap_i64 (by omega) (by omega)]
  have e : (if 0 < most - (usedF l : Int) then most - (usedF l : Int) else 0) = max (most - usedF l) 0 := by split <;> omega
  rw [e]
  exact hK
end Go.Ab.Sh
