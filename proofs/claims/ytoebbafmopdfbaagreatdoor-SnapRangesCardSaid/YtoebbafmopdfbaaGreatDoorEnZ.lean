/- A part of the proofs that a law function returns true at every input; it has no condition of its own. -/
import Derived.Test.YtoebbafmopdfbaaGreatDoorEnV
set_option linter.unusedSimpArgs false
set_option linter.unusedVariables false
/- EnY: The engine's laws: a snap's small functions. -/
namespace Go.Ab.En
open Go Go.Conc Go.RowKit Go.Ab
set_option maxRecDepth 10000
structure Pr where
  key : Str
  val : Str
  deriving DecidableEq
def prD (p : Pr) : DV := .agg [.str p.key, .str p.val]
noncomputable def b79 : Code := (Go.Proofs.Tryz.f79.body).getD .skip
theorem hb79 : Go.Proofs.Tryz.f79.body = some b79 := by kernel_rfl
def pairsL (k v : Str) (ok : Bool) : List Pr := if ok then [⟨k, v⟩] else []
def SPairs : Spec := fun H args K => ∃ (k v : Str) (ok : Bool), args = [.str k, .str v, .bool ok] ∧ K H (.sl true 2 ((pairsL k v ok).map prD))
theorem appPairs {H : List HObj} {K : List HObj → DV → Prop} {k v : Str} {ok : Bool} (h : K H (.sl true 2 ((pairsL k v ok).map prD))) : app SPairs H [.str k, .str v, .bool ok] K := ⟨k, v, ok, rfl, h⟩
theorem rcPairs {I : Jd pp} (hI : ∀ w e, I.Ok w e) : RC I 79 SPairs := by
  refine rc_of_code (isObj := noO) (Γ := envOf []) (rs := [6]) mixed hI (envOf_rc (by simp)) Go.Proofs.Tryz.func79 (by kernel_rfl) hb79 Go.Proofs.Tryz.results79 Go.Proofs.Tryz.ntmps79 (by decide) ?_
  rintro H args K ⟨k, v, ok, rfl, hK⟩
  refine ⟨by simp, rfl, ?_⟩
  unfold b79 Go.Proofs.Tryz.f79
  cases ok
  · simp only [Option.getD_some, argSlots, vro_str, Nat.zero_add, Nat.reduceAdd, vro_bool, w_seq, w_region, mk_clean, tS_cons, g_none, hold_app, o_assign, take_const, constDV, Proofs.Tryz.underlying64, cn96, mk_put, dropLk, tS_nil, hold_app2, o_move, Nat.reduceLT, move_tmp, movK, Nat.reduceBEq, look_miss, look_hit, vroA_bool, o_un, rho_tmp, u_not, Bool.not_false, mk_put?_some, w_cond, cd_t, w_ret, ret_one, vfla_sl, true_and]
    exact hK
  · simp only [Option.getD_some, argSlots, vro_str, Nat.zero_add, Nat.reduceAdd, vro_bool, w_seq, w_region, mk_clean, tS_cons, g_none, hold_app, o_assign, take_const, constDV, Proofs.Tryz.underlying64, cn96, mk_put, dropLk, tS_nil, hold_app2, o_move, Nat.reduceLT, move_tmp, movK, Nat.reduceBEq, look_miss, look_hit, vroA_bool, o_un, rho_tmp, u_not, Bool.not_true, mk_put?_some, w_cond, cd_f, w_skip, vroA_str, bd96, bd96_0, take_tmp, takK, bdk_eq, vcl_str, List.length_cons, List.length_nil, Nat.reduceLeDiff, List.all_cons, vsca_str, List.all_nil, Bool.and_self, putAt_eq, List.take_zero, List.nil_append, List.drop_succ_cons, List.drop_zero, List.cons_append, bd96_1, List.take_succ_cons, List.drop_nil, List.append_nil, bd_nil, bs64_1, isO_eq, vro_agg, List.map_cons, vro1_str, List.map_nil, bsl_f, vcl_agg, beq_self_eq_true, w_ret, ret_one, vfla_sl, true_and]
    exact hK
noncomputable def b145 : Code := (Go.Proofs.Tryz.f145.body).getD .skip
theorem hb145 : Go.Proofs.Tryz.f145.body = some b145 := by kernel_rfl
def SEq : Spec := fun H args K => ∃ (o1 o2 : Bool) (l1 l2 : List Pr), args = [.sl o1 2 (l1.map prD), .sl o2 2 (l2.map prD)] ∧ l1.length < 100000000 ∧ l2.length < 100000000 ∧ K H (.bool (decide (l1 = l2)))
theorem appEq {H : List HObj} {K : List HObj → DV → Prop} {o1 o2 : Bool} {l1 l2 : List Pr} (h1 : l1.length < 100000000) (h2 : l2.length < 100000000) (h : K H (.bool (decide (l1 = l2)))) : app SEq H [.sl o1 2 (l1.map prD), .sl o2 2 (l2.map prD)] K := ⟨o1, o2, l1, l2, rfl, h1, h2, h⟩
def MEq (H : List HObj) (l1 l2 : List Pr) (m : Nat) (st : St) : Prop := ∃ i : Nat, i ≤ l1.length ∧ m = l1.length - i ∧ l1.take i = l2.take i ∧
  st = mk 26 [(0, .sl false 2 (l1.map prD)), (1, .sl false 2 (l2.map prD)), (12, .int .i64 l1.length), (13, .int .i64 i)] [] H []
theorem prD_get {l : List Pr} {i : Nat} (h : i < l.length) : (l.map prD).getD i .undef = .agg [.str (l[i]).key, .str (l[i]).val] := by simp [List.getD, h, prD]
set_option maxHeartbeats 2000000 in
theorem rcEq {I : Jd pp} (hI : ∀ w e, I.Ok w e) : RC I 145 SEq := by
  refine rc_of_code (isObj := noO) (Γ := envOf []) (rs := [4]) mixed hI (envOf_rc (by simp)) Go.Proofs.Tryz.func145 (by kernel_rfl) hb145 Go.Proofs.Tryz.results145 Go.Proofs.Tryz.ntmps145 (by decide) ?_
  rintro H args K ⟨o1, o2, l1, l2, rfl, b1, b2, hK⟩
  refine ⟨by simp, rfl, ?_⟩
  unfold b145 Go.Proofs.Tryz.f145
  by_cases hl : l1.length = l2.length
  · have q : ((l1.length : Nat) : Int) = l2.length := by omega
    simp only [Option.getD_some, argSlots, vro_sl, Nat.zero_add, w_seq, w_region, mk_clean, tS_cons, g_none, hold_app, o_assign, take_const, constDV, mk_put, dropLk, tS_nil, hold_app2, o_move, Nat.reduceLT, move_tmp, movK, Nat.reduceBEq, look_miss, look_hit, lkGet, o_len, rho_tmp, dl64, List.length_map, q, mk_put?_some, o_bin, nil_tmp, Bool.false_eq_true, b_neq, ne_eq, not_true_eq_false, decide_false, w_cond, cd_f, w_skip, move_const, vroA_int, w_block, if_false]
    rw [← q]
    refine w_loop [0, 1, 12, 13] (MEq H l1 l2) l1.length ?_ ?_
    · exact ⟨0, by omega, by omega, by simp, by simp only [o_clo, clo_fn, dcl2_some, hold_app, hold_app2, move_tmp, move_const, take_tmp, take_const, rho_tmp, rho_const, mk_put, mk_put?_some, mk_put?_none, mk_setT, mk_newMap, mk_newFun, mk_forget, vro1_bool, vro_bool, vroA_bool, vcl_bool, vsca_bool, vfla_bool, vro1_int, vro_int, vroA_int, vcl_int, vsca_int, vfla_int, vro1_str, vro_str, vroA_str, vcl_str, vsca_str, vfla_str, vro1_sl, vro_sl, vroA_sl, vcl_sl, vsca_sl, vfla_sl, vro1_agg, vro_agg, vroA_agg, vcl_agg, vsca_agg, vfla_agg, List.map_cons, Nat.reduceBEq, vro1_undef, vro_undef, vroA_undef, vcl_undef, vsca_undef, vfla_undef, vro1_fn, vro_fn, vroA_fn, vcl_fn, vsca_fn, vfla_fn, vro1_hsl, vro_hsl, vroA_hsl, vcl_hsl, vsca_hsl, vfla_hsl, look_hit, look_miss, ext_tmp, pk, ex_0, ex_1, ex_2, lo_int, lo_str, lo_bool, lo_map, lo_ptr, lo_agg, lo_sl, lo_hsl, lo_fn, ld_vptr, ld_h, dlh_some, ld_b, dlb_some, st_h, sth_some, st_b, stb_some, onMap_some, bget_nil, bget_cons, bset_nil, bset_cons, List.map_nil, putAt_eq, mk_setH, mk_setB, nv_if, bsl_t, bsl_f, apd_own, nc0, nc1, nc2, nc3, nc4, nc5, wrap_i64, wrap_u8, nil_tmp, nil_int, nil_str, nil_bool, nil_ptr, nil_map, nil_sl, b_add, b_sub, b_mul, b_rem, b_quo, b_eql, b_neq, b_lss, b_leq, b_gtr, b_geq, s_eql, s_neq, s_lss, s_geq, s_add, u_not, m_max, m_min, plain_str, plain_int, o_fn, dcl_some, env_cons, args_nil, args_cons]; try rfl⟩
    · rintro m st ⟨i, hi, rfl, ht, rfl⟩
      by_cases e : i < l1.length
      · have e1 : (i : Int) < l1.length := by omega
        have e2 : (0 : Int) ≤ i := by omega
        have e3 : i < l2.length := by omega
        have e4 : (i : Int) < l2.length := by omega
        have wi : IntKind.i64.wrap ((i : Int) + 1) = ((i + 1 : Nat) : Int) := by rw [wrap_i64 (by omega) (by omega)]; omega
        have hx := prD_get e
        have hy := prD_get e3
        have hst : l1.take (i + 1) = l2.take (i + 1) ↔ l1[i] = l2[i] := by
          rw [List.take_succ_eq_append_getElem e, List.take_succ_eq_append_getElem e3, ht]
          exact ⟨fun h => by have := List.append_cancel_left h; simpa using this, fun h => by rw [h]⟩
        have hne : l1[i] ≠ l2[i] → ¬ l1 = l2 := by rintro h rfl; exact h rfl
        obtain ⟨⟨xk, xv⟩, hxx⟩ : ∃ x, l1[i] = x := ⟨_, rfl⟩
        obtain ⟨⟨yk, yv⟩, hyy⟩ : ∃ x, l2[i] = x := ⟨_, rfl⟩
        rw [hxx] at hx hst hne
        rw [hyy] at hy hst hne
        simp only [w_seq, w_region, mk_clean, tS_cons, g_none, hold_app, o_bin, nil_tmp, Bool.false_eq_true, Nat.reduceLT, rho_tmp, Nat.reduceBEq, look_miss, look_hit, b_lss, e1, decide_true, mk_put?_some, dropLk, tS_nil, hold_app2, w_cond, cd_t, w_skip, w_block, o_move, move_tmp, movK, vroA_int, o_assign, take_tmp, takK, mk_put, if_false]
        refine w_draw [] (.quiet 0 (.quiet 1 (.quiet 2 (.quiet 3 (.quiet 4 (.quiet 5 (.quiet 6 (.quiet 7 (.quiet 8 (.done)))))))))) (by decide) (by kernel_rfl) ?_
        by_cases hk : xk = yk
        · by_cases hv : xv = yv
          · simp only [mk_clean, rp_quiet, rpQ_zero, g_none, hold_app, q_move, Nat.reduceLT, rho_tmp, Nat.reduceBEq, look_miss, look_hit, vroA_sl, ex_eq, mk_put, dropLk, rpQ_succ, vroA_int, q_indexAddr, ix64, e2, List.length_map, e1, Int.toNat_natCast, hx, hk, hv, vcl_agg, true_and, q_load, ld_vptr, la96, List.length_cons, List.length_nil, Nat.zero_add, Nat.reduceAdd, Nat.reduceLeDiff, List.take_succ_cons, List.take_zero, List.map_cons, vro1_str, List.map_nil, e4, hy, q_bin, eneq96, decide_true, Bool.and_self, Bool.not_true, rp_done, hold_app2, w_cond, cd_f, w_skip, w_region, tS_cons, o_bin, nil_int, Bool.false_eq_true, rho_const, constDV, b_add, wi, mk_put?_some, o_move, move_tmp, movK, tS_nil, mk_forget, if_false]
            refine ⟨_, ?_, i + 1, by omega, rfl, hst.2 (by simp [hk, hv]), rfl⟩
            omega
          · simp only [mk_clean, rp_quiet, rpQ_zero, g_none, hold_app, q_move, Nat.reduceLT, rho_tmp, Nat.reduceBEq, look_miss, look_hit, vroA_sl, ex_eq, mk_put, dropLk, rpQ_succ, vroA_int, q_indexAddr, ix64, e2, List.length_map, e1, Int.toNat_natCast, hx, hk, vcl_agg, true_and, q_load, ld_vptr, la96, List.length_cons, List.length_nil, Nat.zero_add, Nat.reduceAdd, Nat.reduceLeDiff, List.take_succ_cons, List.take_zero, List.map_cons, vro1_str, List.map_nil, e4, hy, q_bin, eneq96, decide_true, hv, decide_false, Bool.and_true, Bool.and_false, Bool.not_false, rp_done, hold_app2, w_cond, cd_t, w_seq, w_region, tS_cons, o_assign, take_const, constDV, tS_nil, w_ret, ret_one, vfla_bool]
            have := hne (by simp [hv])
            simpa [this] using hK
        · simp only [mk_clean, rp_quiet, rpQ_zero, g_none, hold_app, q_move, Nat.reduceLT, rho_tmp, Nat.reduceBEq, look_miss, look_hit, vroA_sl, ex_eq, mk_put, dropLk, rpQ_succ, vroA_int, q_indexAddr, ix64, e2, List.length_map, e1, Int.toNat_natCast, hx, vcl_agg, true_and, q_load, ld_vptr, la96, List.length_cons, List.length_nil, Nat.zero_add, Nat.reduceAdd, Nat.reduceLeDiff, List.take_succ_cons, List.take_zero, List.map_cons, vro1_str, List.map_nil, e4, hy, q_bin, eneq96, hk, decide_false, Bool.and_true, Bool.false_and, Bool.not_false, rp_done, hold_app2, w_cond, cd_t, w_seq, w_region, tS_cons, o_assign, take_const, constDV, tS_nil, w_ret, ret_one, vfla_bool]
          have := hne (by simp [hk])
          simpa [this] using hK
      · obtain rfl : i = l1.length := by omega
        have e1 : ¬ (l1.length : Int) < l1.length := by omega
        simp only [w_seq, w_region, mk_clean, tS_cons, g_none, hold_app, o_bin, nil_tmp, Bool.false_eq_true, Nat.reduceLT, rho_tmp, Nat.reduceBEq, look_miss, look_hit, b_lss, e1, decide_false, mk_put?_some, dropLk, tS_nil, hold_app2, w_cond, cd_f, w_exit, o_assign, take_const, constDV, mk_put, w_ret, ret_one, vfla_bool, true_and, if_true, if_false]
        rw [List.take_length, hl, List.take_length] at ht
        simpa [ht] using hK
  · have q : ¬ ((l1.length : Nat) : Int) = l2.length := by omega
    simp only [Option.getD_some, argSlots, vro_sl, Nat.zero_add, w_seq, w_region, mk_clean, tS_cons, g_none, hold_app, o_assign, take_const, constDV, mk_put, dropLk, tS_nil, hold_app2, o_move, Nat.reduceLT, move_tmp, movK, Nat.reduceBEq, look_miss, look_hit, lkGet, o_len, rho_tmp, dl64, List.length_map, mk_put?_some, o_bin, nil_tmp, Bool.false_eq_true, b_neq, ne_eq, q, not_false_eq_true, decide_true, w_cond, cd_t, w_ret, ret_one, vfla_bool, true_and, if_false]
    have : ¬ l1 = l2 := by rintro rfl; exact hl rfl
    simpa [this] using hK
noncomputable def b78 : Code := (Go.Proofs.Tryz.f78.body).getD .skip
theorem hb78 : Go.Proofs.Tryz.f78.body = some b78 := by kernel_rfl
def SChg : Spec := fun H args K => ∃ (o1 o2 o3 : Bool) (l1 l2 : List Pr), args = [.sl o1 2 (l1.map prD), .sl o2 2 (l2.map prD), .sl o3 1 [.int .i64 0]] ∧ l1.length < 100000000 ∧ l2.length < 100000000 ∧ K H (.tup [.bool (!decide (l1 = l2)), .int .i64 0])
theorem rcChg {I : Jd pp} (hI : ∀ w e, I.Ok w e) : RC I 78 SChg := by
  refine rc_of_code (isObj := noO) (Γ := envOf [(145, SEq)]) (rs := [6, 7]) mixed hI (envOf_rc (by simpa using rcEq hI)) Go.Proofs.Tryz.func78 (by kernel_rfl) hb78 Go.Proofs.Tryz.results78 Go.Proofs.Tryz.ntmps78 (by decide) ?_
  rintro H args K ⟨o1, o2, o3, l1, l2, rfl, b1, b2, hK⟩
  refine ⟨by simp, rfl, ?_⟩
  unfold b78 Go.Proofs.Tryz.f78
  simp only [Option.getD_some, argSlots, vro_sl, Nat.zero_add, Nat.reduceAdd, w_seq, w_region, mk_clean, tS_cons, g_none, hold_app, o_assign, take_const, constDV, mk_put, dropLk, tS_nil, hold_app2, w_scope, w_label, o_move, Nat.reduceLT, move_tmp, movK, Nat.reduceBEq, look_miss, look_hit, lkGet, o_len, rho_tmp, dl202, List.length_cons, List.length_nil, nc1, mk_put?_some, move_const, vroA_int, w_block]
  refine w_unroll 2 ?_
  simp only [lw_succ, w_seq, w_region, mk_clean, tS_cons, g_none, hold_app, o_bin, nil_tmp, Bool.false_eq_true, Nat.reduceLT, rho_tmp, look_hit, Nat.reduceBEq, look_miss, b_lss, Int.reduceLT, decide_true, mk_put?_some, dropLk, tS_nil, hold_app2, w_cond, cd_t, w_skip, w_block, o_indexAddr, ix202, Int.reduceLE, List.length_cons, List.length_nil, Nat.zero_add, nc1, Int.reduceToNat, List.getD_cons_zero, vcl_int, o_load, ld_vptr, la24, vro_int, lo_int, o_assign, take_tmp, takK, vroA_int, mk_put, o_move, move_tmp, movK, nil_int, rho_const, constDV, b_eql, w_exit, b_add, Int.reduceAdd, Int.reduceNeg, wrap_i64, decide_false, cd_f, lkGet, o_fn, args_cons, args_nil, mk_H, env_cons, if_true, dcl_some, List.all_cons, vfla_sl, List.all_nil, Bool.and_self, List.map_cons, vro_sl, List.map_nil, true_and, if_false, reduceCtorEq]
  refine appEq b1 b2 ?_
  simp only [hold_app2, mk_called, Pos.isHp, List.filter_nil, mk_put?_some, dropLk, hold_app, tS_cons, g_none, o_un, Nat.reduceLT, rho_tmp, look_hit, u_not, o_assign, take_tmp, takK, vroA_bool, mk_put, take_const, constDV, tS_nil, w_ret, ret_two, Nat.reduceBEq, look_miss, vfla_bool, vfla_int, and_true, true_and]
  exact hK
end Go.Ab.En

/- EnZ: The engine's laws: what is held; a snap is made. -/
namespace Go.Ab.En
open Go Go.Conc Go.RowKit Go.Ab
set_option maxRecDepth 10000
def isN : ObjT := fun t => t == 128
theorem isN_eq {t : TypeId} : isN t = (t == 128) := _root_.id rfl
/-- Which seqs are held, how often. -/
abbrev Hd := List (Int × Int)
def encI (hd : Hd) : List (DV × DV) := hd.map fun x => (.int .i64 x.1, .int .i64 x.2)
def getI (hd : Hd) (k : Int) : Option Int := match hd with
  | [] => none
  | (x, v) :: r => if k = x then some v else getI r k
def setI (k v : Int) : Hd → Hd
  | [] => [(k, v)]
  | (x, u) :: r => if k = x then (k, v) :: r else (x, u) :: setI k v r
def delI (k : Int) : Hd → Hd
  | [] => []
  | (x, u) :: r => if k = x then r else (x, u) :: delI k r
theorem find_encI (k : Int) : ∀ hd, findKeyD (.int .i64 k) (encI hd) = some ((getI hd k).map (DV.int .i64))
  | [] => rfl
  | (x, v) :: r => by
    have := find_encI k r
    simp only [encI, List.map_cons, findKeyD, keyEq, getI] at this ⊢
    by_cases h : k = x
    · simp [h]
    · simp [h]; assumption
theorem set_encI (k v : Int) : ∀ hd, mapSet (.int .i64 k) (.int .i64 v) (encI hd) = encI (setI k v hd)
  | [] => rfl
  | (x, u) :: r => by
    have := set_encI k v r
    simp only [encI, List.map_cons, mapSet, keyEq, setI] at this ⊢
    by_cases h : k = x
    · simp [h]
    · simp [h]; assumption
theorem del_encI (k : Int) : ∀ hd, mapDel (.int .i64 k) (encI hd) = encI (delI k hd)
  | [] => rfl
  | (x, u) :: r => by
    have := del_encI k r
    simp only [encI, List.map_cons, mapDel, keyEq, delI] at this ⊢
    by_cases h : k = x
    · simp [h]
    · simp [h]; assumption
theorem all_encI (k : Int) (hd : Hd) : ((encI hd).all fun e => (keyEq (.int .i64 k) e.1).isSome) = true := by
  simp [encI, List.all_eq_true, keyEq]
theorem mroI {o : Option Int} : (Option.map DV.ro (Option.map (DV.int .i64) o)).getD (.int .i64 0) = .int .i64 (o.getD 0) := by cases o <;> rfl
theorem misI {o : Option Int} : (Option.map (DV.int .i64) o).isSome = o.isSome := by cases o <;> rfl
def cntI (hd : Hd) (n : Int) : Int := (getI hd n).getD 0
def holdH (hd : Hd) (n : Int) : Hd := setI n (cntI hd n + 1) hd
def freeH (hd : Hd) (n : Int) : Hd := if cntI hd n - 1 ≤ 0 then delI n (setI n (cntI hd n - 1) hd) else setI n (cntI hd n - 1) hd
theorem getI_set (k v : Int) : ∀ hd, getI (setI k v hd) k = some v
  | [] => by simp [setI, getI]
  | (x, u) :: r => by
    simp only [setI]
    split
    · simp [getI]
    · rename_i h; simp [getI, h, getI_set k v r]
theorem EngS.At.heldUp {E : EngS} {H H' : List HObj} {held' : List (DV × DV)} (h : E.At H) (f : Fr [E.hm] H H') (g : H'[E.hm]? = some (.map held')) : EngS.At { E with held := held' } H' := by
  have nd := h.nodup
  have hm : ∀ y ∈ E.S, y ≠ E.hm := fun y hy e => h.apart y hy (by rw [e]; simp [EngS.parts])
  simp [EngS.parts] at nd
  refine ⟨f.get h.top (by simp; omega), h.shelf.fr f (by simp; omega) (by simp; omega) (by simp; omega), h.heap.fr f fun x hx => by simpa using hm x hx, f.get h.sheet (by simp; omega), f.get h.tabs (by simp; omega), g, h.nodup, h.apart⟩
theorem EngS.At.fr0 {E : EngS} {H H' : List HObj} (h : E.At H) (f : Fr [] H H') : E.At H' :=
  ⟨f.get h.top (by simp), h.shelf.fr f (by simp) (by simp) (by simp), h.heap.fr f (by simp), f.get h.sheet (by simp), f.get h.tabs (by simp), f.get h.held (by simp), h.nodup, h.apart⟩
/-- All objects of an engine. -/
def EngS.all (E : EngS) : List Nat := E.parts ++ E.S
theorem EngS.At.allLt {E : EngS} {H : List HObj} (h : E.At H) : ∀ x ∈ E.all, x < H.length := fun x hx => by
  rcases List.mem_append.1 hx with hx | hx
  · exact h.lt x hx
  · exact h.heap.lt x hx
theorem EngS.At.frs {E : EngS} {H H' : List HObj} {S : List Nat} (h : E.At H) (f : Fr S H H') (hS : ∀ y ∈ S, y ∉ E.all) : E.At H' := by
  have p : ∀ y ∈ E.all, y ∉ S := fun y hy hs => hS y hs hy
  have q : ∀ y ∈ E.parts, y ∉ S := fun y hy => p y (List.mem_append_left _ hy)
  exact ⟨f.get h.top (q _ (by simp [EngS.parts])), h.shelf.fr f (q _ (by simp [EngS.parts])) (q _ (by simp [EngS.parts])) (q _ (by simp [EngS.parts])), h.heap.fr f (fun x hx => p x (List.mem_append_right _ hx)), f.get h.sheet (q _ (by simp [EngS.parts])), f.get h.tabs (q _ (by simp [EngS.parts])), f.get h.held (q _ (by simp [EngS.parts])), h.nodup, h.apart⟩
noncomputable def b54 : Code := (Go.Proofs.Tryz.f54.body).getD .skip
theorem hb54 : Go.Proofs.Tryz.f54.body = some b54 := by kernel_rfl
def SHold : Spec := fun H args K => ∃ (E : EngS) (hd : Hd) (n : Int), args = [.ptr E.x 0, .int .i64 n] ∧ E.At H ∧ E.held = encI hd ∧ 0 ≤ cntI hd n ∧ cntI hd n < 1000000000 ∧ ∀ H', Fr [E.hm] H H' → H'.length = H.length → EngS.At { E with held := encI (holdH hd n) } H' → K H' (.tup [])
theorem rcHold {I : Jd pp} (hI : ∀ w e, I.Ok w e) : RC I 54 SHold := by
  refine rc_of_code (isObj := noO) (Γ := envOf []) (rs := []) mixed hI (envOf_rc (by simp)) Go.Proofs.Tryz.func54 (by kernel_rfl) hb54 Go.Proofs.Tryz.results54 Go.Proofs.Tryz.ntmps54 (by decide) ?_
  rintro H args K ⟨E, hd, n, rfl, h1, hh, c0, c1, hK⟩
  refine ⟨by simp, rfl, ?_⟩
  unfold b54 Go.Proofs.Tryz.f54
  have hheld := h1.held
  rw [hh] at hheld
  have w0 : IntKind.i64.wrap ((getI hd n).getD 0 + 1) = (getI hd n).getD 0 + 1 := wrap_i64 (by unfold cntI at c0; omega) (by unfold cntI at c1; omega)
  simp only [Option.getD_some, argSlots, vro_ptr, Nat.zero_add, vro_int, w_region, mk_clean, tS_cons, g_none, hold_app, o_move, Nat.reduceLT, move_tmp, movK, look_hit, vroA_ptr, dropLk, o_nilCheck, dnil, rho_tmp, mk_put?_some, o_fieldAddr, fp114_6, o_load, ld_h, h1.top, dlh_some, List.drop_succ_cons, List.drop_zero, la112, vro_map, lo_map, Nat.reduceBEq, look_miss, vroA_int, o_lookup, DV.plain, lk_h Go.Proofs.Tryz.underlying112, hheld, kt3, lf3, true_and, onMap_some, find_encI, mroI, o_bin, nil_int, Bool.false_eq_true, rho_const, constDV, b_add, w0, o_mapUpdate, mu_h Go.Proofs.Tryz.underlying112, mk_setH, Pos.inHp, List.filter_nil, all_encI, set_encI, mk_put?_none, tS_nil, hold_app2, ret_none', if_false]
  exact hK _ (Fr.set _ _ _) (by simp) (h1.heldUp (Fr.set _ _ _) (List.getElem?_set_self (List.getElem?_eq_some_iff.1 hheld).1))
noncomputable def b55 : Code := (Go.Proofs.Tryz.f55.body).getD .skip
theorem hb55 : Go.Proofs.Tryz.f55.body = some b55 := by kernel_rfl
def SFree : Spec := fun H args K => ∃ (E : EngS) (hd : Hd) (n : Int), args = [.ptr E.x 0, .int .i64 n] ∧ E.At H ∧ E.held = encI hd ∧ 0 ≤ cntI hd n ∧ cntI hd n < 1000000000 ∧ ∀ H', Fr [E.hm] H H' → H'.length = H.length → EngS.At { E with held := encI (freeH hd n) } H' → K H' (.tup [])
theorem rcFree {I : Jd pp} (hI : ∀ w e, I.Ok w e) : RC I 55 SFree := by
  refine rc_of_code (isObj := noO) (Γ := envOf []) (rs := []) mixed hI (envOf_rc (by simp)) Go.Proofs.Tryz.func55 (by kernel_rfl) hb55 Go.Proofs.Tryz.results55 Go.Proofs.Tryz.ntmps55 (by decide) ?_
  rintro H args K ⟨E, hd, n, rfl, h1, hh, c0, c1, hK⟩
  refine ⟨by simp, rfl, ?_⟩
  unfold b55 Go.Proofs.Tryz.f55
  have hheld := h1.held
  rw [hh] at hheld
  have nd := h1.nodup
  simp [EngS.parts] at nd
  have hxm : E.hm ≠ E.x := by omega
  have hlm : E.hm < H.length := (List.getElem?_eq_some_iff.1 hheld).1
  have w0 : IntKind.i64.wrap ((getI hd n).getD 0 - 1) = (getI hd n).getD 0 - 1 := wrap_i64 (by unfold cntI at c0; omega) (by unfold cntI at c1; omega)
  have g1 : ∀ X, (H.set E.hm X)[E.x]? = H[E.x]? := fun X => List.getElem?_set_ne hxm
  have g2 : ∀ X, (H.set E.hm X)[E.hm]? = some X := fun X => List.getElem?_set_self hlm
  have g3 : ∀ v, getI (setI n v hd) n = some v := fun v => getI_set n v hd
  by_cases hc : (getI hd n).getD 0 - 1 ≤ 0
  · simp only [Option.getD_some, argSlots, vro_ptr, Nat.zero_add, vro_int, w_seq, w_region, mk_clean, tS_cons, g_none, hold_app, o_move, Nat.reduceLT, move_tmp, movK, look_hit, vroA_ptr, dropLk, o_nilCheck, dnil, rho_tmp, mk_put?_some, o_fieldAddr, fp114_6, o_load, ld_h, h1.top, dlh_some, List.drop_succ_cons, List.drop_zero, la112, vro_map, lo_map, Nat.reduceBEq, look_miss, vroA_int, o_lookup, DV.plain, lk_h Go.Proofs.Tryz.underlying112, hheld, kt3, lf3, true_and, onMap_some, find_encI, mroI, o_bin, nil_int, Bool.false_eq_true, rho_const, constDV, b_sub, w0, o_mapUpdate, mu_h Go.Proofs.Tryz.underlying112, mk_setH, Pos.inHp, List.filter_nil, all_encI, set_encI, mk_put?_none, tS_nil, hold_app2, g1, g2, g3, Option.map_some, b_leq, hc, decide_true, w_cond, cd_t, o_delete, md_h Go.Proofs.Tryz.underlying112, List.set_set, del_encI, ret_none', if_false]
    have := hK (H.set E.hm (.map (encI (freeH hd n)))) (Fr.set _ _ _) (by simp) (h1.heldUp (Fr.set _ _ _) (List.getElem?_set_self hlm))
    simpa [freeH, cntI, hc] using this
  · simp only [Option.getD_some, argSlots, vro_ptr, Nat.zero_add, vro_int, w_seq, w_region, mk_clean, tS_cons, g_none, hold_app, o_move, Nat.reduceLT, move_tmp, movK, look_hit, vroA_ptr, dropLk, o_nilCheck, dnil, rho_tmp, mk_put?_some, o_fieldAddr, fp114_6, o_load, ld_h, h1.top, dlh_some, List.drop_succ_cons, List.drop_zero, la112, vro_map, lo_map, Nat.reduceBEq, look_miss, vroA_int, o_lookup, DV.plain, lk_h Go.Proofs.Tryz.underlying112, hheld, kt3, lf3, true_and, onMap_some, find_encI, mroI, o_bin, nil_int, Bool.false_eq_true, rho_const, constDV, b_sub, w0, o_mapUpdate, mu_h Go.Proofs.Tryz.underlying112, mk_setH, Pos.inHp, List.filter_nil, all_encI, set_encI, mk_put?_none, tS_nil, hold_app2, g1, g2, g3, Option.map_some, b_leq, hc, decide_false, w_cond, cd_f, w_skip, ret_none', if_false]
    have := hK (H.set E.hm (.map (encI (freeH hd n)))) (Fr.set _ _ _) (by simp) (h1.heldUp (Fr.set _ _ _) (List.getElem?_set_self hlm))
    simpa [freeH, cntI, hc] using this
/-- A snap in the heap. -/
def SnapAt (H : List HObj) (s x : Nat) (n : Int) (over : Bool) : Prop := H[s]? = some (.cells [.ptr x 0, .int .i64 n, .bool over])
noncomputable def b19 : Code := (Go.Proofs.Tryz.f19.body).getD .skip
theorem hb19 : Go.Proofs.Tryz.f19.body = some b19 := by kernel_rfl
def SOf : Spec := fun H args K => ∃ (E : EngS) (hd : Hd), args = [.ptr E.x 0] ∧ E.At H ∧ E.held = encI hd ∧ 0 ≤ cntI hd E.seq ∧ cntI hd E.seq < 1000000000 ∧ ∀ H' s, Fr [E.hm] H H' → EngS.At { E with held := encI (holdH hd E.seq) } H' → SnapAt H' s E.x E.seq false → H.length ≤ s → K H' (.ptr s 0)
theorem rcOf {I : Jd pp} (hI : ∀ w e, I.Ok w e) : RC I 19 SOf := by
  refine rc_of_code (isObj := isN) (Γ := envOf [(25, SSeq), (54, SHold)]) (rs := [2]) mixed hI (envOf_rc (by simpa using ⟨rcSeq hI, rcHold hI⟩)) Go.Proofs.Tryz.func19 (by kernel_rfl) hb19 Go.Proofs.Tryz.results19 Go.Proofs.Tryz.ntmps19 (by decide) ?_
  rintro H args K ⟨E, hd, rfl, h1, hh, c0, c1, hK⟩
  refine ⟨by simp, rfl, ?_⟩
  unfold b19 Go.Proofs.Tryz.f19
  simp only [Option.getD_some, argSlots, vro_ptr, w_seq, w_region, mk_clean, tS_cons, g_none, hold_app, o_assign, take_const, constDV, mk_put, dropLk, tS_nil, hold_app2, o_move, Nat.reduceLT, move_tmp, movK, Nat.reduceBEq, look_miss, look_hit, vroA_ptr, o_fn, args_cons, rho_tmp, args_nil, mk_H, env_cons, Nat.reduceEqDiff, if_false, if_true, dcl_some, List.all_cons, vfla_ptr, List.all_nil, Bool.and_self, List.map_cons, List.map_nil, true_and]
  refine appSeq h1 ?_
  simp only [hold_app2, mk_called, Pos.isHp, List.filter_nil, mk_put?_some, dropLk, hold_app, tS_cons, g_none, o_fn, args_cons, Nat.reduceLT, rho_tmp, Nat.reduceBEq, look_miss, look_hit, args_nil, mk_H, env_cons, Nat.reduceEqDiff, if_true, if_false, dcl_some, List.all_cons, vfla_ptr, vfla_int, List.all_nil, Bool.and_self, List.map_cons, vro_ptr, vro_int, List.map_nil, true_and]
  refine ⟨E, hd, E.seq, rfl, h1, hh, c0, c1, fun H1 f1 l1 a1 => ?_⟩
  simp only [hold_app2, mk_called, Pos.isHp, List.filter_nil, mk_put?_some, dropLk, hold_app, tS_nil, w_seq, w_region, mk_clean, tS_cons, g_none, o_move, Nat.reduceLT, move_tmp, movK, Nat.reduceBEq, look_miss, look_hit, vroA_ptr, o_fn, args_cons, rho_tmp, args_nil, mk_H, env_cons, Nat.reduceEqDiff, if_false, if_true, dcl_some, List.all_cons, vfla_ptr, List.all_nil, Bool.and_self, List.map_cons, vro_ptr, List.map_nil, true_and]
  refine appSeq (E := { E with held := encI (holdH hd E.seq) }) a1 ?_
  simp only [hold_app2, mk_called, Pos.isHp, List.filter_nil, mk_put?_some, dropLk, hold_app, tS_cons, g_none, bd128, mk_put, bd128_0, Nat.reduceLT, take_tmp, takK, Nat.reduceBEq, look_miss, look_hit, vroA_ptr, bdk_eq, vcl_ptr, List.length_cons, List.length_nil, Nat.zero_add, Nat.reduceAdd, Nat.reduceLeDiff, List.all_cons, vsca_ptr, List.all_nil, Bool.and_self, putAt_eq, List.take_zero, List.nil_append, List.drop_succ_cons, List.drop_zero, List.cons_append, bd128_1, vroA_int, vcl_int, vsca_int, List.take_succ_cons, bd128_2, take_const, constDV, vcl_bool, vsca_bool, List.drop_nil, List.append_nil, bd_nil, o_box, List.map_cons, vro1_ptr, vro1_int, vro1_bool, List.map_nil, vcl_agg, nv_if, isN_eq, beq_self_eq_true, bgen_eq, bget_nil, bset_nil, if_true, o_assign, tS_nil, w_ret, ret_one, vfla_ptr, true_and]
  exact hK _ H1.length ((f1.trans (Fr.app [] _ _)).mono (by simp)) (a1.fr0 (Fr.app [] _ _)) (by simp [SnapAt]) (by omega)
end Go.Ab.En
