/- A part of the proofs that a law function returns true at every input; it has no condition of its own. -/
import Derived.Test.YtcljbddnnnbihaaShQ
set_option linter.unusedSimpArgs false
set_option linter.unusedVariables false
/- ShL: The law's own helpers. -/
namespace Go.Ab.Sh
open Go Go.Conc Go.RowKit Go.Ab
set_option maxRecDepth 10000
structure Stp where
  what : Int
  n : Int
  m : Int
  name : Str
  to : Str
  b : Str
def stepD (s : Stp) : DV := .agg [.int .i64 s.what, .int .i64 s.n, .int .i64 s.m, .str s.name, .str s.to, .str s.b]
def fewS (s : Stp) : Bool := decide (s.b.length ≤ 100) && decide (s.name.length ≤ 30) && decide (s.to.length ≤ 30)
def fewF (l : List Stp) : Bool := l.all fewS && decide (l.length ≤ 60)
theorem stepD_at {l : List Stp} {i : Nat} (h : i < l.length) : (l.map stepD).getD i .undef = .agg [.int .i64 l[i].what, .int .i64 l[i].n, .int .i64 l[i].m, .str l[i].name, .str l[i].to, .str l[i].b] := by
  simp [List.getD, h, stepD]
noncomputable def b9 : Code := (Go.Proofs.Try.f9.body).getD .skip
theorem hb9 : Go.Proofs.Try.f9.body = some b9 := by kernel_rfl
/-- few. -/
def S9 : Spec := fun H args K => ∃ own l, args = [.sl own 6 (List.map stepD l)] ∧ l.length ≤ 9223372036854775807 ∧ K H (.bool (fewF l))
def M9 (l : List Stp) (H : List HObj) (m : Nat) (st : St) : Prop := ∃ i : Nat, i ≤ l.length ∧ m = l.length - i ∧ (∀ j (hj : j < i) (h : j < l.length), fewS l[j] = true) ∧ st = mk 38 [(0, .sl false 6 (l.map stepD)), (2, .bool false), (3, .int .i64 i)] [] H []
theorem rc9 {I : Jd pp} (hI : ∀ w e, I.Ok w e) : RC I 9 S9 := by
  refine rc_of_code (isObj := isO) (Γ := envOf []) (rs := [2]) mixed hI (envOf_rc (by simp)) Go.Proofs.Try.func9 (by kernel_rfl) hb9 Go.Proofs.Try.results9 Go.Proofs.Try.ntmps9 (by decide) ?_
  rintro H args K ⟨own, l, rfl, hlen, hK⟩
  refine ⟨by simp, rfl, ?_⟩
  unfold b9 Go.Proofs.Try.f9
  simp only [Option.getD_some, argSlots, DV.ro, w_seq, w_region, mk_clean, tS_cons, g_none, hold_app, o_assign, take_const, constDV, mk_put, dropLk, tS_nil, hold_app2, w_block]
  refine w_loop [0, 2, 3] (M9 l H) l.length ?_ ?_
  · exact ⟨0, by omega, by omega, by intro j hj; omega, by simp only [mk_forget, List.map_cons, Nat.reduceBEq, look_miss, look_hit, List.map_nil]; rfl⟩
  · rintro m st ⟨i, hi, rfl, hj, rfl⟩
    simp only [w_seq, w_region, mk_clean, tS_cons, g_none, hold_app, o_move, Nat.reduceLT, move_tmp, movK, Nat.reduceBEq, look_miss, look_hit, DV.roA, DV.ro, dropLk, lkGet, o_len, rho_tmp, dl22, List.length_map, mk_put?_some, o_bin, nil_tmp, Bool.false_eq_true, b_lss, tS_nil, hold_app2, w_cond, cd, decide_eq_true_eq, w_skip, w_block, o_indexAddr, ix22, DV.cells, Int.toNat_natCast, o_fieldAddr, fv31_5, o_load, ld_vptr, decide_eq_false_iff_not, w_exit, nil_int, rho_const, constDV, b_leq, o_assign, take_tmp, takK, mk_put, w_ret, ret_one, DV.flat, true_and, if_false, if_true]
    refine ⟨fun h1 => ?_, fun h1 => ?_⟩
    · have hl : i < l.length := by omega
      have hbad : fewS l[i] = false → K H (.bool false) := by
        intro h
        have : fewF l = false := by
          simp only [fewF, Bool.and_eq_false_iff]
          exact .inl (List.all_eq_false.2 ⟨l[i], List.getElem_mem hl, by simp [h]⟩)
        rwa [this] at hK
      have hgood : fewS l[i] = true → ∃ m', m' < l.length - i ∧ M9 l H m' (mk 38 [(0, .sl false 6 (l.map stepD)), (2, .bool false), (3, .int .i64 (IntKind.i64.wrap ((i : Int) + 1)))] [] H []) := by
        intro h
        refine ⟨l.length - (i + 1), by omega, i + 1, by omega, rfl, fun j hj' h' => ?_, by rw [wrap_i64 (by omega) (by omega)]; rfl⟩
        rcases Nat.lt_succ_iff_lt_or_eq.1 hj' with h2 | rfl
        · exact hj j h2 h'
        · exact h
      simp only [stepD_at hl, List.drop_succ_cons, List.drop_zero, la9, DV.ro, hold_app, Nat.reduceLT, rho_tmp, look_hit, lo_str, dropLk, tS_cons, g_none, o_len, dl9, mk_put?_some, o_bin, nil_int, Bool.false_eq_true, rho_const, constDV, b_gtr, o_move, move_tmp, movK, DV.roA, g_some, gq_succ, gq_zero, gs1_eq, gs2_bool, decide_eq_false_iff_not, mk_setT, Nat.reduceBEq, look_miss, lkGet, o_indexAddr, ix22, List.length_map, DV.cells, Int.toNat_natCast, o_fieldAddr, fv31_3, o_load, ld_vptr, o_pick, pk, if_false, fv31_4, tS_nil, hold_app2, w_cond, cd, decide_eq_true_eq, w_seq, w_region, mk_clean, o_assign, take_const, mk_put, w_ret, ret_one, DV.flat, true_and, w_skip, b_add, take_tmp, takK, mk_forget, List.map_cons, List.map_nil, true_implies, Bool.not_false, if_true, Bool.true_eq_false, false_implies, and_true]
      repeat' (first | apply And.intro | intro _)
      all_goals (first
        | omega
        | exact hbad (by cases h : fewS l[i] with | false => rfl | true => (simp only [fewS, Bool.and_eq_true, decide_eq_true_eq] at h; omega))
        | exact hgood (by simp [fewS]; omega))
    · have hall : l.all fewS = true := by
        rw [List.all_eq_true]
        intro x hx
        obtain ⟨k, hk, rfl⟩ := List.getElem_of_mem hx
        exact hj k (by omega) hk
      have e : decide ((l.length : Int) ≤ 60) = decide (l.length ≤ 60) := decide_eq_decide.2 (by omega)
      simpa [fewF, hall, e] using hK
end Go.Ab.Sh
