/- A part of the proofs that a law function returns true at every input; it has no condition of its own. -/
import Derived.Test.YtcljbddnnnbihaaShE
set_option linter.unusedSimpArgs false
set_option linter.unusedVariables false
/- ShA: The shelf's small functions. -/
namespace Go.Ab.Sh
open Go Go.Conc Go.RowKit Go.Ab
set_option maxRecDepth 10000
noncomputable def b35 : Code := (Go.Proofs.Try.f35.body).getD .skip
theorem hb35 : Go.Proofs.Try.f35.body = some b35 := by kernel_rfl
/-- there. -/
def S35 : Spec := fun H args K => ∃ id k n kept now acts room nm, args = [.ptr id 0, .str nm] ∧ ShelfAt H id k n kept now acts room ∧ K H (.bool (getF now nm).isSome)
theorem rc35 {I : Jd pp} (hI : ∀ w e, I.Ok w e) : RC I 35 S35 := by
  refine rc_of_code (isObj := isO) (Γ := envOf []) (rs := [4]) mixed hI (envOf_rc (by simp)) Go.Proofs.Try.func35 (by kernel_rfl) hb35 Go.Proofs.Try.results35 Go.Proofs.Try.ntmps35 (by decide) ?_
  rintro H args K ⟨id, k, n, kept, now, acts, room, nm, rfl, ⟨h1, h2, h3, h4⟩, hK⟩
  refine ⟨by simp, rfl, ?_⟩
  unfold b35 Go.Proofs.Try.f35
  simp only [Option.getD_some, argSlots, DV.ro, Nat.zero_add, w_seq, w_region, mk_clean, tS_cons, g_none, hold_app, o_assign, take_const, constDV, mk_put, dropLk, tS_nil, hold_app2, o_move, Nat.reduceLT, move_tmp, movK, Nat.reduceBEq, look_miss, look_hit, DV.roA, o_nilCheck, dnil, rho_tmp, mk_put?_some, o_fieldAddr, fp57_1, o_load, ld_h, h1, shelfC, dlh_some, List.drop_succ_cons, List.drop_zero, la54, lo_map, o_lookup, DV.plain, lk_h Go.Proofs.Try.underlying54, h3, kt9, true_and, onMap_some, find_enc, lf9, List.map_cons, List.map_nil, o_extract, ex_0, ext_tmp, extK, ex_1, take_tmp, takK, w_ret, ret_one, DV.flat]
  exact hK

noncomputable def b34 : Code := (Go.Proofs.Try.f34.body).getD .skip
theorem hb34 : Go.Proofs.Try.f34.body = some b34 := by kernel_rfl
def okC (c : UInt8) : Bool := (97 ≤ c.toNat && c.toNat ≤ 122) || (48 ≤ c.toNat && c.toNat ≤ 57) || c.toNat == 45
def namedF (s : Str) : Bool := s.all okC && decide (s ≠ []) && decide (s.length ≤ 16)
/-- named. -/
def S34 : Spec := fun H args K => ∃ s : Str, args = [.str s] ∧ s.length < 4611686018427387904 ∧ K H (.bool (namedF s))
def M34 (s : Str) (H : List HObj) (m : Nat) (st : St) : Prop := ∃ i : Nat, i ≤ s.length ∧ m = s.length - i ∧ (∀ j, j < i → okC (s.getD j 0) = true) ∧ st = mk 39 [(0, .str s), (2, .bool false), (6, .int .i64 s.length), (7, .int .i64 i)] [] H []
theorem rc34 {I : Jd pp} (hI : ∀ w e, I.Ok w e) : RC I 34 S34 := by
  refine rc_of_code (isObj := isO) (Γ := envOf []) (rs := [2]) mixed hI (envOf_rc (by simp)) Go.Proofs.Try.func34 (by kernel_rfl) hb34 Go.Proofs.Try.results34 Go.Proofs.Try.ntmps34 (by decide) ?_
  rintro H args K ⟨s, rfl, hlen, hK⟩
  refine ⟨by simp, rfl, ?_⟩
  unfold b34 Go.Proofs.Try.f34
  simp only [Option.getD_some, argSlots, DV.ro, w_seq, w_region, mk_clean, tS_cons, g_none, hold_app, o_assign, take_const, constDV, mk_put, dropLk, tS_nil, hold_app2, o_move, Nat.reduceLT, move_tmp, movK, Nat.reduceBEq, look_miss, look_hit, DV.roA, o_len, rho_tmp, dl9, mk_put?_some, move_const, w_block]
  refine w_loop [0, 2, 6, 7] (M34 s H) s.length ?_ ?_
  · exact ⟨0, by omega, by omega, by intro j hj; omega, by simp only [mk_forget, List.map_cons, Nat.reduceBEq, look_miss, look_hit, List.map_nil]; rfl⟩
  · rintro m st ⟨i, hi, rfl, hj, rfl⟩
    have hbad : i < s.length → okC (s.getD i 0) = false → K H (.bool false) := by
      intro h1 h2
      have : namedF s = false := by
        simp only [namedF, Bool.and_eq_false_iff]
        refine .inl (.inl (List.all_eq_false.2 ⟨s[i], List.getElem_mem h1, ?_⟩))
        simpa [List.getD, h1] using h2
      rwa [this] at hK
    have hgood : i < s.length → okC (s.getD i 0) = true → ∃ m', m' < s.length - i ∧ M34 s H m' (mk 39 [(0, .str s), (2, .bool false), (6, .int .i64 s.length), (7, .int .i64 (IntKind.i64.wrap ((i : Int) + 1)))] [] H []) := by
      intro h1 h2
      refine ⟨s.length - (i + 1), by omega, i + 1, by omega, rfl, fun j hj' => ?_, ?_⟩
      · rcases Nat.lt_succ_iff_lt_or_eq.1 hj' with h | rfl
        · exact hj j h
        · exact h2
      · rw [wrap_i64 (by omega) (by omega)]; rfl
    have hend : ¬ (i : Int) < s.length → K H (.bool (decide (s ≠ []) && decide (s.length ≤ 16))) := by
      intro h1
      have e : i = s.length := by omega
      have : s.all okC = true := by
        rw [List.all_eq_true]
        intro x hx
        obtain ⟨k, hk, rfl⟩ := List.getElem_of_mem hx
        simpa [List.getD, hk] using hj k (by omega)
      simpa [namedF, this] using hK
    simp only [w_seq, w_region, mk_clean, tS_cons, g_none, hold_app, o_bin, nil_tmp, Bool.false_eq_true, Nat.reduceLT, rho_tmp, Nat.reduceBEq, look_miss, look_hit, b_lss, mk_put?_some, dropLk, tS_nil, hold_app2, w_cond, cd, decide_eq_true_eq, w_skip, w_block, o_move, move_tmp, movK, DV.roA, DV.ro, o_assign, take_tmp, takK, mk_put, o_index, ix9, Int.toNat_natCast, nil_int, rho_const, constDV, g_some, gq_succ, gq_zero, gs1_eq, gs2_bool, decide_eq_false_iff_not, mk_setT, b_gtr, o_pick, pk, if_false, if_true, b_neq, ne_eq, decide_not, Bool.not_eq_true', take_const, w_ret, ret_one, DV.flat, true_and, Bool.not_eq_false', b_add, mk_forget, List.map_cons, List.map_nil, true_implies, Bool.not_true, Bool.true_eq_false, false_implies, and_true, Bool.not_false, gs2_tup, w_exit, nil_str, s_neq, o_len, dl9, b_leq]
    have hend2 : ¬ (i : Int) < s.length → (¬s = [] → K H (.bool (decide ((s.length : Int) ≤ 16)))) ∧ (s = [] → K H (.bool false)) := by
      intro h1
      have := hend h1
      refine ⟨fun h2 => ?_, fun h2 => ?_⟩
      · have e : decide ((s.length : Int) ≤ 16) = decide (s.length ≤ 16) := decide_eq_decide.2 (by omega)
        rw [e]; simpa [h2] using this
      · simpa [h2] using this
    refine ⟨fun h1 => ⟨by omega, h1, ?_⟩, hend2⟩
    generalize List.getD s i 0 = c at hbad hgood ⊢
    repeat' (first | apply And.intro | intro _)
    all_goals (first
      | exact hbad (by omega) (by simp [okC]; omega)
      | exact hgood (by omega) (by simp [okC]; omega))
end Go.Ab.Sh
