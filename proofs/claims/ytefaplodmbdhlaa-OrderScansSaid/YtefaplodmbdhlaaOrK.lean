/- A part of the proofs that a law function returns true at every input; it has no condition of its own. -/
import Derived.Test.YtefaplodmbdhlaaOrJ
set_option linter.unusedSimpArgs false
set_option linter.unusedVariables false
/- OrK: The order laws: writes of a level. -/
namespace Go.Ab.Or
open Go Go.Conc Go.RowKit Go.Ab
set_option maxRecDepth 10000
theorem box1 {s : Nat} {B : List (Nat × Nat × List DV)} (hB : B = [] ∨ ∃ g c, B = [(s, g, c)]) : ∃ g, bgen s B = g ∧ (∀ cs, bset s g cs B = [(s, g, cs)]) := by
  rcases hB with rfl | ⟨g, c, rfl⟩
  · exact ⟨0, rfl, fun _ => rfl⟩
  · exact ⟨g + 1, by simp [bgen, bget], fun _ => by simp [bset]⟩
noncomputable def b14 : Code := (Go.Proofs.Try.f14.body).getD .skip
theorem hb14 : Go.Proofs.Try.f14.body = some b14 := by kernel_rfl
def SWr : Spec := fun H args K => ∃ n0 sid lv own ws S, args = [.map sid, .int .i64 lv, .sl own 3 (List.map wrD ws)] ∧ StAt n0 H sid S ∧ n0 ≤ H.length ∧ ws.length < 4611686018427387904 ∧
  ∀ H' S', FrB n0 H H' → StAt n0 H' sid S' → (∀ l, filesS S' l = if l = lv then some (ws.foldl putW ((filesS S lv).getD [])) else filesS S l) → K H' (.tup [])
def MWr (n0 : Nat) (H1 : List HObj) (sid : Nat) (lv : Int) (S1 : Sto) (f0 : Files) (ws : List WR) (m : Nat) (st : St) : Prop := ∃ (i : Nat) (H' : List HObj) (B : List (Nat × Nat × List DV)), i ≤ ws.length ∧ m = ws.length - i ∧ FrB n0 H1 H' ∧
  StAt n0 H' sid (setS lv ((ws.take i).foldl putW f0) S1) ∧ (B = [] ∨ ∃ g c, B = [(7, g, c)]) ∧ st = mk 37 [(0, .map sid), (1, .int .i64 lv), (15, .sl false 3 (ws.map wrD)), (16, .int .i64 ws.length), (17, .int .i64 i)] B H' []
theorem setS_self {l : Int} {i : Nat} {f : Files} : ∀ {S : Sto}, idS l S = some (i, f) → setS l f S = S
  | (x, j, u) :: r, h => by
    simp only [idS] at h
    simp only [setS]
    split at h
    · rename_i e; cases h; rw [if_pos e]
    · rename_i e; rw [if_neg e, setS_self h]
theorem setS_setS {l : Int} {f g : Files} : ∀ {S : Sto}, setS l f (setS l g S) = setS l f S
  | [] => rfl
  | (x, j, u) :: r => by
    by_cases e : l = x
    · simp [setS, e]
    · simp only [setS, e, if_false]; rw [setS_setS]
theorem gdn {i : Nat} : Option.getD (Option.map DV.ro (some (DV.map i))) DV.nilmap = .map i := rfl
set_option maxHeartbeats 4000000 in
theorem rcWr {I : Jd pp} (hI : ∀ w e, I.Ok w e) : RC I 14 SWr := by
  refine rc_of_code (isObj := isO) (Γ := envOf []) (rs := []) mixed hI (envOf_rc (by simp)) Go.Proofs.Try.func14 (by kernel_rfl) hb14 Go.Proofs.Try.results14 Go.Proofs.Try.ntmps14 (by decide) ?_
  rintro H args K ⟨n0, sid, lv, own, ws, S, rfl, hS, hn0, hl, hK⟩
  cases hid : idS lv S with
  | none =>
    refine ⟨by simp, rfl, ?_⟩
    unfold b14 Go.Proofs.Try.f14
    simp only [Option.getD_some, argSlots, vro_map, Nat.zero_add, vro_int, Nat.reduceAdd, vro_sl, w_scope, w_seq, w_region, mk_clean, tS_cons, g_none, hold_app, o_move, Nat.reduceLT, move_tmp, movK, look_hit, vroA_map, dropLk, Nat.reduceBEq, look_miss, vroA_int, o_lookup, DV.plain, rho_tmp, lk_h Go.Proofs.Try.underlying49, hS.top, kt3, lf68, true_and, onMap_some, find_top, hid, Option.map_none, Option.getD_none, mk_put?_some, o_bin, nil_map, Bool.false_eq_true, rho_const, constDV, m0_eql Go.Proofs.Try.underlying68, tS_nil, hold_app2, w_cond, cd_t, o_makeMap, mk_newMap, o_mapUpdate, mu_h Go.Proofs.Try.underlying49, ap_old hS.top [HObj.map []], mk_setH, Pos.inHp, List.filter_nil, all_top, set_top lv H.length S hid, mk_put?_none, w_label, lkGet, o_len, dl27, List.length_map, move_const, w_block, if_false]
    have hS1 := hS.new hid hn0
    have hi1 : idS lv (S ++ [(lv, H.length, [])]) = some (H.length, []) := by rw [idS_app hid, if_pos rfl]
    have hf1 : ((filesS S lv).getD []) = [] := by simp [filesS, hid]
    have hf2 : ∀ l, filesS (S ++ [(lv, H.length, [])]) l = if l = lv then some [] else filesS S l := fun l => by
      simp only [filesS, idS_app hid]; split <;> rfl
    have hF : FrB n0 H ((H ++ [HObj.map []]).set sid (HObj.map (topS (S ++ [(lv, H.length, [])])))) := (FrB.app _ hn0).trans (FrB.set _ hS.lo.1)
    generalize ((H ++ [HObj.map []]).set sid (HObj.map (topS (S ++ [(lv, H.length, [])])))) = H1 at hS1 hF ⊢
    generalize (S ++ [(lv, H.length, [])]) = S1 at hS1 hi1 hf2
    rw [hf1] at hK
    refine w_loop [0, 1, 15, 16, 17] (MWr n0 H1 sid lv S1 [] ws) ws.length ?_ ?_
    · exact ⟨0, H1, [], by omega, by omega, FrB.refl _ _, by rw [List.take_zero, List.foldl_nil, setS_self hi1]; exact hS1, .inl rfl, by simp only [mk_forget, List.map_cons, Nat.reduceBEq, look_miss, look_hit, List.map_nil, nc0]; try rfl⟩
    · rintro m st ⟨i, H', B, hi, rfl, hFr, hSt, hB, rfl⟩
      have hi2 : ∀ l, idS l (setS lv ((ws.take i).foldl putW []) S1) = if l = lv then some (H.length, (ws.take i).foldl putW []) else idS l S1 := fun l => by
        rw [idS_setS]
        split
        · rename_i e; subst e; rw [hi1]; rfl
        · rfl
      have hi3 := hi2 lv
      rw [if_pos rfl] at hi3
      obtain ⟨fi, hfi⟩ : ∃ fi, (ws.take i).foldl putW [] = fi := ⟨_, rfl⟩
      rw [hfi] at hSt hi2 hi3
      obtain ⟨g, hb2, hb1⟩ := box1 hB
      by_cases e : i < ws.length
      · have e1 : (i : Int) < ws.length := by omega
        have e2 : (0 : Int) ≤ i := by omega
        have wi : IntKind.i64.wrap ((i : Int) + 1) = ((i + 1 : Nat) : Int) := by rw [wrap_i64 (by omega) (by omega)]; omega
        obtain ⟨⟨wk, wd, wv⟩, hw⟩ : ∃ w, ws[i] = w := ⟨_, rfl⟩
        have hx : (ws.map wrD).getD i .undef = .agg [.str wk, .bool wd, .str wv] := by rw [getD_map _ _ i e, hw]; rfl
        have hfl := hSt.files _ (idS_mem hi3)
        cases wd
        · simp only [w_seq, w_region, mk_clean, tS_cons, g_none, hold_app, o_bin, nil_tmp, Bool.false_eq_true, Nat.reduceLT, rho_tmp, Nat.reduceBEq, look_miss, look_hit, b_lss, e1, decide_true, mk_put?_some, dropLk, tS_nil, hold_app2, w_cond, cd_t, w_skip, w_block, o_indexAddr, ix27, e2, List.length_map, Int.toNat_natCast, hx, vcl_agg, o_load, ld_vptr, la26, List.length_cons, List.length_nil, Nat.zero_add, Nat.reduceAdd, Nat.reduceLeDiff, List.take_succ_cons, List.take_zero, List.map_cons, vro1_str, vro1_bool, List.map_nil, lo_agg, al26, nv_if, isO_eq, Bool.or_self, hb2, hb1, if_false, o_store, take_tmp, takK, st_b, bget_cons, bget_nil, if_true, stb_some, Proofs.Try.underlying26, Option.isSome_some, cn26, List.all_cons, vsca_str, vsca_bool, List.all_nil, Bool.and_self, putAt_eq, List.nil_append, List.drop_succ_cons, List.drop_nil, List.append_nil, mk_setB, bset_cons, bset_nil, Pos.inBox, List.filter_nil, o_fieldAddr, fl26_1, ld_b, dlb_some, List.drop_zero, la4, vro_bool, lo_bool, o_un, u_not, Bool.not_false, o_move, move_tmp, movK, vroA_map, vroA_int, o_lookup, DV.plain, lk_h Go.Proofs.Try.underlying49, hSt.top, kt3, lf68, true_and, onMap_some, find_top, hi3, Option.map_some, vro_map, Option.getD_some, fl26_0, Nat.add_zero, la9, vro_str, lo_str, fl26_2, o_mapUpdate, mu_h Go.Proofs.Try.underlying68, hfl, kt9, mk_setH, Pos.inHp, all_enc, set_enc, mk_put?_none, w_exit, nil_int, rho_const, constDV, b_add, wi, mk_forget, reduceCtorEq, ret_none']
          refine ⟨_, ?_, i + 1, _, _, by omega, rfl, hFr.trans (FrB.set _ (hSt.lo.2 _ (idS_mem hi3))), ?_, .inr ⟨_, _, rfl⟩, rfl⟩
          · omega
          · have : (ws.take (i + 1)).foldl putW [] = setF wk wv fi := by rw [List.take_succ_eq_append_getElem e, List.foldl_append, hfi, hw]; rfl
            rw [this, ← setS_setS (g := fi)]
            exact hSt.upd _ hi3
        · simp only [w_seq, w_region, mk_clean, tS_cons, g_none, hold_app, o_bin, nil_tmp, Bool.false_eq_true, Nat.reduceLT, rho_tmp, Nat.reduceBEq, look_miss, look_hit, b_lss, e1, decide_true, mk_put?_some, dropLk, tS_nil, hold_app2, w_cond, cd_t, w_skip, w_block, o_indexAddr, ix27, e2, List.length_map, Int.toNat_natCast, hx, vcl_agg, o_load, ld_vptr, la26, List.length_cons, List.length_nil, Nat.zero_add, Nat.reduceAdd, Nat.reduceLeDiff, List.take_succ_cons, List.take_zero, List.map_cons, vro1_str, vro1_bool, List.map_nil, lo_agg, al26, nv_if, isO_eq, Bool.or_self, hb2, hb1, if_false, o_store, take_tmp, takK, st_b, bget_cons, bget_nil, if_true, stb_some, Proofs.Try.underlying26, Option.isSome_some, cn26, List.all_cons, vsca_str, vsca_bool, List.all_nil, Bool.and_self, putAt_eq, List.nil_append, List.drop_succ_cons, List.drop_nil, List.append_nil, mk_setB, bset_cons, bset_nil, Pos.inBox, List.filter_nil, o_fieldAddr, fl26_1, ld_b, dlb_some, List.drop_zero, la4, vro_bool, lo_bool, o_un, u_not, Bool.not_true, cd_f, o_move, move_tmp, movK, vroA_map, vroA_int, o_lookup, DV.plain, lk_h Go.Proofs.Try.underlying49, hSt.top, kt3, lf68, true_and, onMap_some, find_top, hi3, Option.map_some, vro_map, Option.getD_some, fl26_0, Nat.add_zero, la9, vro_str, lo_str, o_delete, md_h Go.Proofs.Try.underlying68, hfl, kt9, mk_setH, Pos.inHp, all_enc, del_enc, mk_put?_none, nil_int, rho_const, constDV, b_add, wi, mk_forget]
          refine ⟨_, ?_, i + 1, _, _, by omega, rfl, hFr.trans (FrB.set _ (hSt.lo.2 _ (idS_mem hi3))), ?_, .inr ⟨_, _, rfl⟩, rfl⟩
          · omega
          · have : (ws.take (i + 1)).foldl putW [] = delF wk fi := by rw [List.take_succ_eq_append_getElem e, List.foldl_append, hfi, hw]; rfl
            rw [this, ← setS_setS (g := fi)]
            exact hSt.upd _ hi3
      · have e0 : i = ws.length := by omega
        subst e0
        simp only [w_seq, w_region, mk_clean, tS_cons, g_none, hold_app, o_bin, nil_tmp, Bool.false_eq_true, Nat.reduceLT, rho_tmp, Nat.reduceBEq, look_miss, look_hit, b_lss, Int.lt_irrefl, decide_false, mk_put?_some, dropLk, tS_nil, hold_app2, w_cond, cd_f, w_exit, ret_none', if_true, if_false]
        rw [List.take_length] at hfi
        refine hK _ _ (hF.trans hFr) hSt fun l => ?_
        have h2 := hf2 l
        simp only [filesS, hi2] at h2 ⊢
        split
        · rw [hfi]; rfl
        · rename_i e; rw [h2, if_neg e]
  | some y =>
    obtain ⟨id, f0⟩ := y
    refine ⟨by simp, rfl, ?_⟩
    unfold b14 Go.Proofs.Try.f14
    simp only [Option.getD_some, argSlots, vro_map, Nat.zero_add, vro_int, Nat.reduceAdd, vro_sl, w_scope, w_seq, w_region, mk_clean, tS_cons, g_none, hold_app, o_move, Nat.reduceLT, move_tmp, movK, look_hit, vroA_map, dropLk, Nat.reduceBEq, look_miss, vroA_int, o_lookup, DV.plain, rho_tmp, lk_h Go.Proofs.Try.underlying49, hS.top, kt3, lf68, true_and, onMap_some, find_top, hid, Option.map_some, mk_put?_some, o_bin, nil_map, Bool.false_eq_true, rho_const, constDV, mn_eql Go.Proofs.Try.underlying68, tS_nil, hold_app2, w_cond, cd_f, w_skip, w_label, lkGet, o_len, dl27, List.length_map, move_const, w_block, if_false]
    have hS1 := hS
    have hi1 := hid
    have hf1 : ((filesS S lv).getD []) = f0 := by simp [filesS, hid]
    have hf2 : ∀ l, filesS S l = if l = lv then some f0 else filesS S l := fun l => by
      split
      · rename_i e; subst e; simp [filesS, hid]
      · rfl
    have hF : FrB n0 H H := FrB.refl _ _
    rw [hf1] at hK
    refine w_loop [0, 1, 15, 16, 17] (MWr n0 H sid lv S f0 ws) ws.length ?_ ?_
    · exact ⟨0, H, [], by omega, by omega, FrB.refl _ _, by rw [List.take_zero, List.foldl_nil, setS_self hi1]; exact hS, .inl rfl, by simp only [mk_forget, List.map_cons, Nat.reduceBEq, look_miss, look_hit, List.map_nil, nc0]; try rfl⟩
    · rintro m st ⟨i, H', B, hi, rfl, hFr, hSt, hB, rfl⟩
      have hi2 : ∀ l, idS l (setS lv ((ws.take i).foldl putW f0) S) = if l = lv then some (id, (ws.take i).foldl putW f0) else idS l S := fun l => by
        rw [idS_setS]
        split
        · rename_i e; subst e; rw [hi1]; rfl
        · rfl
      have hi3 := hi2 lv
      rw [if_pos rfl] at hi3
      obtain ⟨fi, hfi⟩ : ∃ fi, (ws.take i).foldl putW f0 = fi := ⟨_, rfl⟩
      rw [hfi] at hSt hi2 hi3
      obtain ⟨g, hb2, hb1⟩ := box1 hB
      by_cases e : i < ws.length
      · have e1 : (i : Int) < ws.length := by omega
        have e2 : (0 : Int) ≤ i := by omega
        have wi : IntKind.i64.wrap ((i : Int) + 1) = ((i + 1 : Nat) : Int) := by rw [wrap_i64 (by omega) (by omega)]; omega
        obtain ⟨⟨wk, wd, wv⟩, hw⟩ : ∃ w, ws[i] = w := ⟨_, rfl⟩
        have hx : (ws.map wrD).getD i .undef = .agg [.str wk, .bool wd, .str wv] := by rw [getD_map _ _ i e, hw]; rfl
        have hfl := hSt.files _ (idS_mem hi3)
        cases wd
        · simp only [w_seq, w_region, mk_clean, tS_cons, g_none, hold_app, o_bin, nil_tmp, Bool.false_eq_true, Nat.reduceLT, rho_tmp, Nat.reduceBEq, look_miss, look_hit, b_lss, e1, decide_true, mk_put?_some, dropLk, tS_nil, hold_app2, w_cond, cd_t, w_skip, w_block, o_indexAddr, ix27, e2, List.length_map, Int.toNat_natCast, hx, vcl_agg, o_load, ld_vptr, la26, List.length_cons, List.length_nil, Nat.zero_add, Nat.reduceAdd, Nat.reduceLeDiff, List.take_succ_cons, List.take_zero, List.map_cons, vro1_str, vro1_bool, List.map_nil, lo_agg, al26, nv_if, isO_eq, Bool.or_self, hb2, hb1, if_false, o_store, take_tmp, takK, st_b, bget_cons, bget_nil, if_true, stb_some, Proofs.Try.underlying26, Option.isSome_some, cn26, List.all_cons, vsca_str, vsca_bool, List.all_nil, Bool.and_self, putAt_eq, List.nil_append, List.drop_succ_cons, List.drop_nil, List.append_nil, mk_setB, bset_cons, bset_nil, Pos.inBox, List.filter_nil, o_fieldAddr, fl26_1, ld_b, dlb_some, List.drop_zero, la4, vro_bool, lo_bool, o_un, u_not, Bool.not_false, o_move, move_tmp, movK, vroA_map, vroA_int, o_lookup, DV.plain, lk_h Go.Proofs.Try.underlying49, hSt.top, kt3, lf68, true_and, onMap_some, find_top, hi3, Option.map_some, vro_map, Option.getD_some, fl26_0, Nat.add_zero, la9, vro_str, lo_str, fl26_2, o_mapUpdate, mu_h Go.Proofs.Try.underlying68, hfl, kt9, mk_setH, Pos.inHp, all_enc, set_enc, mk_put?_none, w_exit, nil_int, rho_const, constDV, b_add, wi, mk_forget, reduceCtorEq, ret_none']
          refine ⟨_, ?_, i + 1, _, _, by omega, rfl, hFr.trans (FrB.set _ (hSt.lo.2 _ (idS_mem hi3))), ?_, .inr ⟨_, _, rfl⟩, rfl⟩
          · omega
          · have : (ws.take (i + 1)).foldl putW f0 = setF wk wv fi := by rw [List.take_succ_eq_append_getElem e, List.foldl_append, hfi, hw]; rfl
            rw [this, ← setS_setS (g := fi)]
            exact hSt.upd _ hi3
        · simp only [w_seq, w_region, mk_clean, tS_cons, g_none, hold_app, o_bin, nil_tmp, Bool.false_eq_true, Nat.reduceLT, rho_tmp, Nat.reduceBEq, look_miss, look_hit, b_lss, e1, decide_true, mk_put?_some, dropLk, tS_nil, hold_app2, w_cond, cd_t, w_skip, w_block, o_indexAddr, ix27, e2, List.length_map, Int.toNat_natCast, hx, vcl_agg, o_load, ld_vptr, la26, List.length_cons, List.length_nil, Nat.zero_add, Nat.reduceAdd, Nat.reduceLeDiff, List.take_succ_cons, List.take_zero, List.map_cons, vro1_str, vro1_bool, List.map_nil, lo_agg, al26, nv_if, isO_eq, Bool.or_self, hb2, hb1, if_false, o_store, take_tmp, takK, st_b, bget_cons, bget_nil, if_true, stb_some, Proofs.Try.underlying26, Option.isSome_some, cn26, List.all_cons, vsca_str, vsca_bool, List.all_nil, Bool.and_self, putAt_eq, List.nil_append, List.drop_succ_cons, List.drop_nil, List.append_nil, mk_setB, bset_cons, bset_nil, Pos.inBox, List.filter_nil, o_fieldAddr, fl26_1, ld_b, dlb_some, List.drop_zero, la4, vro_bool, lo_bool, o_un, u_not, Bool.not_true, cd_f, o_move, move_tmp, movK, vroA_map, vroA_int, o_lookup, DV.plain, lk_h Go.Proofs.Try.underlying49, hSt.top, kt3, lf68, true_and, onMap_some, find_top, hi3, Option.map_some, vro_map, Option.getD_some, fl26_0, Nat.add_zero, la9, vro_str, lo_str, o_delete, md_h Go.Proofs.Try.underlying68, hfl, kt9, mk_setH, Pos.inHp, all_enc, del_enc, mk_put?_none, nil_int, rho_const, constDV, b_add, wi, mk_forget]
          refine ⟨_, ?_, i + 1, _, _, by omega, rfl, hFr.trans (FrB.set _ (hSt.lo.2 _ (idS_mem hi3))), ?_, .inr ⟨_, _, rfl⟩, rfl⟩
          · omega
          · have : (ws.take (i + 1)).foldl putW f0 = delF wk fi := by rw [List.take_succ_eq_append_getElem e, List.foldl_append, hfi, hw]; rfl
            rw [this, ← setS_setS (g := fi)]
            exact hSt.upd _ hi3
      · have e0 : i = ws.length := by omega
        subst e0
        simp only [w_seq, w_region, mk_clean, tS_cons, g_none, hold_app, o_bin, nil_tmp, Bool.false_eq_true, Nat.reduceLT, rho_tmp, Nat.reduceBEq, look_miss, look_hit, b_lss, Int.lt_irrefl, decide_false, mk_put?_some, dropLk, tS_nil, hold_app2, w_cond, cd_f, w_exit, ret_none', if_true, if_false]
        rw [List.take_length] at hfi
        refine hK _ _ (hF.trans hFr) hSt fun l => ?_
        have h2 := hf2 l
        simp only [filesS, hi2] at h2 ⊢
        split
        · rw [hfi]; rfl
        · rename_i e; rw [h2, if_neg e]
end Go.Ab.Or
