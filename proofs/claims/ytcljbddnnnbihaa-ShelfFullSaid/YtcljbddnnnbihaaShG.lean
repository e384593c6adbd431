/- A part of the proofs that a law function returns true at every input; it has no condition of its own. -/
import Derived.Test.YtcljbddnnnbihaaShX2
set_option linter.unusedSimpArgs false
set_option linter.unusedVariables false
/- ShG: Crash. -/
namespace Go.Ab.Sh
open Go Go.Conc Go.RowKit Go.Ab
set_option maxRecDepth 10000
theorem actD_at {l : List Act} {i : Nat} (h : i < l.length) : (l.map actD).getD i .undef = actD l[i] := by
  simp [List.getD, h]
def tornF (a : Act) (k : Nat) (f : Files) : Files := if a.kind = 3 ∨ a.kind = 4 ∨ (a.kind = 1 ∧ a.b.take k = []) then f else doesF { a with b := a.b.take k } f
def foldA (f : Files) (l : List Act) : Files := l.foldl (fun f a => doesF a f) f
def crashF (n k : Nat) (acts : List Act) (f : Files) : Files := match acts.drop n with
  | [] => foldA f (acts.take n)
  | a :: _ => tornF a k (foldA f (acts.take n))
def sumB : List Act → Nat
  | [] => 0
  | a :: r => a.b.length + sumB r
theorem sumB_app : ∀ l m, sumB (l ++ m) = sumB l + sumB m
  | [], m => by simp [sumB]
  | a :: r, m => by simp [sumB, sumB_app r m]; omega
theorem usedF_set (k v : Str) : ∀ f, usedF (setF k v f) + ((getF f k).getD []).length ≤ usedF f + v.length
  | [] => by simp [setF, usedF, getF]
  | (x, u) :: r => by
    have := usedF_set k v r
    simp only [setF, getF]
    split
    · simp [usedF]; omega
    · simp only [usedF]; omega
theorem usedF_del (k : Str) : ∀ f, usedF (delF k f) + ((getF f k).getD []).length ≤ usedF f
  | [] => by simp [delF, usedF, getF]
  | (x, u) :: r => by
    have := usedF_del k r
    simp only [delF, getF]
    split
    · simp [usedF]; omega
    · simp only [usedF]; omega
theorem usedF_does (a : Act) (f : Files) : usedF (doesF a f) ≤ usedF f + a.b.length := by
  unfold doesF
  split
  · have := usedF_set a.name a.b f; omega
  · split
    · have := usedF_set a.name ((getF f a.name).getD [] ++ a.b) f; simp at this; omega
    · split
      · have := usedF_set a.b ((getF f a.name).getD []) (delF a.name f)
        have := usedF_del a.name f
        omega
      · split
        · have := usedF_del a.name f; omega
        · omega
theorem usedF_fold : ∀ (l : List Act) (f : Files), usedF (foldA f l) ≤ usedF f + sumB l
  | [], f => by simp [foldA, sumB]
  | a :: r, f => by
    have h1 := usedF_fold r (doesF a f)
    have h2 := usedF_does a f
    simp only [foldA, List.foldl_cons, sumB] at h1 ⊢
    omega
theorem foldA_take (f : Files) (l : List Act) (i : Nat) (h : i < l.length) : foldA f (l.take (i + 1)) = doesF l[i] (foldA f (l.take i)) := by
  rw [List.take_succ_eq_append_getElem h]
  unfold foldA
  rw [List.foldl_append]
  rfl
theorem crash_at (n k : Nat) (l : List Act) (f : Files) (h : n < l.length) : crashF n k l f = tornF l[n] k (foldA f (l.take n)) := by
  unfold crashF
  rw [List.drop_eq_getElem_cons h]
theorem crash_end (k : Nat) (l : List Act) (f : Files) : crashF l.length k l f = foldA f l := by simp [crashF]

theorem dsl9 {s : Str} {lo hi : Option DV} {K : DV → Prop} : dslice pp 9 (.str s) lo hi K = dbound s.length hi s.length fun h => dbound h lo 0 fun l => K (.str ((s.take h).drop l)) := by simp only [dslice, Go.Proofs.Try.underlying9]
theorem db_none {n d : Nat} {K : Nat → Prop} : dbound n none d K = K d := _root_.id rfl
theorem db_some {n d : Nat} {k : IntKind} {i : Int} {K : Nat → Prop} : dbound n (some (.int k i)) d K = (0 ≤ i ∧ i ≤ n ∧ K i.toNat) := _root_.id rfl
theorem oc65 : ofCells pp 65 (zeroDV pp 6 65) = .agg [.int .i64 0, .str [], .str []] := by rw [zd65_6]; kernel_rfl
theorem zo65 : zeroOk pp 65 (zeroDV pp 6 65) = true := by rw [zd65_6]; exact zo65_4
theorem sumB_at {l : List Act} {i : Nat} (h : i < l.length) : sumB (l.take i) + (l[i]).b.length ≤ sumB l := by
  have e := sumB_app (l.take i) (l.drop i)
  rw [List.take_append_drop, List.drop_eq_getElem_cons h, sumB] at e
  omega
noncomputable def b24 : Code := (Go.Proofs.Try.f24.body).getD .skip
theorem hb24 : Go.Proofs.Try.f24.body = some b24 := by kernel_rfl
/-- Crash. -/
def S24 : Spec := fun H args K => ∃ id k n kept now acts room x y, args = [.ptr id 0, .int .i64 x, .int .i64 y] ∧ ShelfAt H id k n kept now acts room ∧ acts.length < 100000 ∧ usedF kept + sumB acts < 4611686018427387904 ∧
  K ((H.set k (.map (enc (crashF (min (max x 0) acts.length).toNat (max y 0).toNat acts kept))) ++ [HObj.map (enc (crashF (min (max x 0) acts.length).toNat (max y 0).toNat acts kept))]).set id (.cells (shelfC k H.length [] room))) (.tup [])
def M24 (H : List HObj) (id k n kn : Nat) (kept : Files) (acts : List Act) (room y : Int) (nn : Nat) (m : Nat) (st : St) : Prop := ∃ (i : Nat) (f : Files) (B : List (Nat × Nat × List DV)), i ≤ acts.length ∧ m = acts.length - i ∧ (i ≤ nn ∧ f = foldA kept (acts.take i) ∨ i = nn + 1 ∧ f = crashF nn (max y 0).toNat acts kept) ∧ (B = [] ∨ ∃ g c, B = [(7, g, c)]) ∧
  st = mk 80 [(0, .ptr id 0), (1, .int .i64 nn), (2, .int .i64 y), (19, .sl false 3 (acts.map actD)), (20, .int .i64 acts.length), (21, .int .i64 i)] B (H.set k (.map (enc f))) []
set_option maxHeartbeats 2000000 in
theorem rc24 {I : Jd pp} (hI : ∀ w e, I.Ok w e) (h41 : RC I 41 S41) : RC I 24 S24 := by
  refine rc_of_code (isObj := isO) (Γ := envOf [(41, S41), (42, S42)]) (rs := []) mixed hI (envOf_rc (by simpa using ⟨h41, rc42 hI⟩)) Go.Proofs.Try.func24 (by kernel_rfl) hb24 Go.Proofs.Try.results24 Go.Proofs.Try.ntmps24 (by decide) ?_
  rintro H args K ⟨id, k, n, kept, now, acts, room, x, y, rfl, hs, hlen, hu, hK⟩
  have h1 := hs.1
  have h2 := hs.2.1
  refine ⟨by simp, rfl, ?_⟩
  unfold b24 Go.Proofs.Try.f24
  simp only [Option.getD_some, argSlots, DV.ro, Nat.zero_add, Nat.reduceAdd, w_scope, w_seq, w_region, mk_clean, tS_cons, g_none, hold_app, o_move, Nat.reduceLT, move_tmp, movK, Nat.reduceBEq, look_miss, look_hit, DV.roA, dropLk, o_max, rho_tmp, rho_const, constDV, m_max, mk_put?_some, o_nilCheck, dnil, o_fieldAddr, fp57_2, o_load, ld_h, h1, shelfC, dlh_some, List.drop_succ_cons, List.drop_zero, la55, lo_sl, addrPos, ia55, Bool.false_eq_true, if_false, o_len, dl55, List.length_map, Pos.atSlot, Bool.or_false, o_min, m_min, o_assign, take_tmp, takK, mk_put, tS_nil, hold_app2, w_label, move_const, w_block]
  generalize hnn : (min (max x 0) (acts.length : Int)).toNat = nn at hK
  have hn1 : nn ≤ acts.length := by omega
  have hmin : (if (acts.length : Int) < if x < 0 then 0 else x then (acts.length : Int) else if x < 0 then 0 else x) = (nn : Int) := by split <;> split <;> omega
  rw [hmin]
  have hset0 : H.set k (.map (enc kept)) = H := List.ext_getElem? fun j => by
    rw [List.getElem?_set]
    split
    · rename_i e
      subst e
      have h3 := (List.getElem?_eq_some_iff.1 h2)
      rw [if_pos h3.1, ← h2]
    · rfl
  refine w_loop [0, 1, 2, 19, 20, 21] (M24 H id k n k kept acts room y nn) acts.length ?_ ?_
  · exact ⟨0, kept, [], by omega, by omega, .inl ⟨by omega, rfl⟩, .inl rfl, by simp only [mk_forget, List.map_cons, Nat.reduceBEq, look_miss, look_hit, List.map_nil, hset0]; rfl⟩
  · rintro m st ⟨i, f, B, hi, rfl, hf, hB, rfl⟩
    have hk : k < H.length := (List.getElem?_eq_some_iff.1 h2).1
    have hkid : k ≠ id := fun e => by rw [e, h1] at h2; cases h2
    have hs1 : ∀ x, (H.set k x)[id]? = some (.cells (shelfC k n acts room)) := fun x => (hset_ne hkid).trans h1
    have hs2 : ∀ x, (H.set k x)[k]? = some x := fun x => hset (j := 0) hk
    have hs1' : ∀ x y, (H.set k x ++ [y])[id]? = some (.cells (shelfC k n acts room)) := fun x y => by
      rw [List.getElem?_append_left (by rw [List.length_set]; exact (List.getElem?_eq_some_iff.1 h1).1)]; exact hs1 x
    have hKf : f = crashF nn (max y 0).toNat acts kept → K ((H.set k (HObj.map (enc f)) ++ [HObj.map (enc f)]).set id (HObj.cells (shelfC k H.length [] room))) (.tup []) := fun h => by rw [h]; exact hK
    obtain ⟨g, hb2, hb1⟩ : ∃ g, bgen 7 B = g ∧ ∀ cs, bset 7 g cs B = [(7, g, cs)] := by
      rcases hB with rfl | ⟨g, c, rfl⟩
      · exact ⟨0, rfl, fun _ => rfl⟩
      · exact ⟨g + 1, by simp [bgen, bget], fun _ => by simp [bset]⟩
    by_cases e : i < acts.length
    · have e1 : (i : Int) < acts.length := by omega
      have e0 : (0 : Int) ≤ i := by omega
      obtain ⟨ak, an, ab, hai⟩ : ∃ ak an ab, acts[i] = (⟨ak, an, ab⟩ : Act) := ⟨_, _, _, rfl⟩
      have hat : (acts.map actD).getD i .undef = .agg [.int .i64 ak, .str an, .str ab] := by rw [actD_at e, hai]; rfl
      by_cases c1 : (i : Int) < nn
      · have hi1 : i < nn := by omega
        have hf : f = foldA kept (acts.take i) := by rcases hf with h | h; exact h.2; omega
        simp only [w_seq, w_region, mk_clean, tS_cons, g_none, hold_app, o_bin, nil_tmp, Bool.false_eq_true, Nat.reduceLT, rho_tmp, Nat.reduceBEq, look_miss, look_hit, b_lss, e1, decide_true, mk_put?_some, dropLk, tS_nil, hold_app2, w_cond, cd, w_skip, w_block, o_move, move_tmp, movK, DV.roA, DV.ro, o_indexAddr, ix55, e0, List.length_map, DV.cells, Int.toNat_natCast, hat, o_load, ld_vptr, la65, List.length_cons, List.length_nil, Nat.zero_add, Nat.reduceAdd, Nat.reduceLeDiff, List.take_succ_cons, List.take_zero, List.map_cons, DV.ro1, List.map_nil, lo_agg, o_alloc, zo65, oc65, List.all_cons, DV.scalar, List.all_nil, Bool.and_self, nv65, hb2, hb1, o_assign, take_tmp, takK, mk_put, o_store, st_b, bget_cons, bget_nil, if_true, stb_some, us65, cn65, putAt_eq, List.nil_append, List.drop_succ_cons, List.drop_nil, List.append_nil, mk_setB, bset_cons, bset_nil, Pos.inBox, List.filter_nil, c1, true_implies, Bool.true_eq_false, b_gtr, g_some, gq_succ, gq_zero, gs1_eq, gs2_bool, mk_setT, o_fieldAddr, fl65_0, Nat.add_zero, ld_b, dlb_some, List.drop_zero, la3, lo_int, nil_int, rho_const, constDV, b_eql, o_pick, pk, if_false, w_exit, reduceCtorEq, b_add, mk_forget, o_nilCheck, dnil, fp57_0, ld_h, hs1, shelfC, dlh_some, la54, lo_map, o_fn, args_cons, args_nil, mk_H, env_cons, Nat.reduceEqDiff, dcl_some, DV.flat, true_and, fl65_2, la9, lo_str, o_max, m_max, o_len, dl9, o_min, m_min, o_slice, Option.map_some, Bool.not_false, false_implies, and_true]
        refine w_draw [5] (.quiet 0 (.quiet 1 (.quiet 2 (.quiet 3 (.quiet 4 (.acts [(5, [], .done)])))))) (by decide) (by kernel_rfl) ?_
        simp only [mk_clean, rp_quiet, rpQ_zero, g_none, hold_app, q_move, DV.roA, Nat.reduceLT, rho_tmp, Nat.reduceBEq, look_miss, look_hit, DV.ro, ex_eq, mk_put, dropLk, rpQ_succ, q_nilCheck, dnil, q_fieldAddr, fp57_0, Nat.add_zero, q_load, ld_h, hs1, shelfC, dlh_some, List.drop_zero, la54, ld_b, bget_cons, bget_nil, if_true, dlb_some, la65, List.length_cons, List.length_nil, Nat.zero_add, Nat.reduceAdd, Nat.reduceLeDiff, List.take_succ_cons, List.take_zero, List.map_cons, DV.ro1, List.map_nil, true_and, rp_acts, ra_cons, rpA_succ, rpA_zero, o_fn, args_cons, args_nil, mk_H, env_cons, Nat.reduceEqDiff, if_false, dcl_some, List.all_cons, DV.flat, List.all_nil, Bool.and_self, ra_nil, and_true]
        refine app42 f ⟨ak, an, ab⟩ (hs2 _) ?_ ?_
        · have h1 := usedF_fold (acts.take i) kept
          have h2 := sumB_at e
          have h3 := getF_used an f
          rw [hai] at h2
          rw [← hf] at h1
          simp only at h2 ⊢
          omega
        · simp only [List.set_set, hold_app2, mk_called, Pos.isHp, List.filter_nil, mk_put?_some, dropLk, hold_app, rcA_nil, slL_nil, mk_unlink, dropLks, rp_done, w_region, mk_clean, tS_cons, g_none, o_bin, nil_int, Bool.false_eq_true, Nat.reduceLT, rho_tmp, Nat.reduceBEq, look_miss, look_hit, rho_const, constDV, b_add, o_move, move_tmp, movK, DV.roA, DV.ro, tS_nil, mk_forget, List.map_cons, List.map_nil, if_false, true_and]
          refine ⟨acts.length - (i + 1), by omega, i + 1, doesF ⟨ak, an, ab⟩ f, [(7, g, [.int .i64 ak, .str an, .str ab])], by omega, rfl, .inl ⟨by omega, by rw [foldA_take kept acts i e, hai, hf]⟩, .inr ⟨_, _, rfl⟩, ?_⟩
          rw [wrap_i64 (by omega) (by omega)]
          rfl
      · by_cases c2 : (nn : Int) < i
        · have hf : f = crashF nn (max y 0).toNat acts kept := by rcases hf with h | h; omega; exact h.2
          simp only [w_seq, w_region, mk_clean, tS_cons, g_none, hold_app, o_bin, nil_tmp, Bool.false_eq_true, Nat.reduceLT, rho_tmp, Nat.reduceBEq, look_miss, look_hit, b_lss, e1, decide_true, mk_put?_some, dropLk, tS_nil, hold_app2, w_cond, cd, w_skip, w_block, o_move, move_tmp, movK, DV.roA, DV.ro, o_indexAddr, ix55, e0, List.length_map, DV.cells, Int.toNat_natCast, hat, o_load, ld_vptr, la65, List.length_cons, List.length_nil, Nat.zero_add, Nat.reduceAdd, Nat.reduceLeDiff, List.take_succ_cons, List.take_zero, List.map_cons, DV.ro1, List.map_nil, lo_agg, o_alloc, zo65, oc65, List.all_cons, DV.scalar, List.all_nil, Bool.and_self, nv65, hb2, hb1, o_assign, take_tmp, takK, mk_put, o_store, st_b, bget_cons, bget_nil, if_true, stb_some, us65, cn65, putAt_eq, List.nil_append, List.drop_succ_cons, List.drop_nil, List.append_nil, mk_setB, bset_cons, bset_nil, Pos.inBox, List.filter_nil, c1, decide_false, false_implies, b_gtr, c2, g_some, gq_succ, gq_zero, gs1_eq, gs2_bool, Bool.true_eq_false, mk_setT, o_fieldAddr, fl65_0, Nat.add_zero, ld_b, dlb_some, List.drop_zero, la3, lo_int, nil_int, rho_const, constDV, b_eql, o_pick, pk, if_false, w_exit, reduceCtorEq, b_add, mk_forget, o_nilCheck, dnil, fp57_0, ld_h, hs1, shelfC, dlh_some, la54, lo_map, o_fn, args_cons, args_nil, mk_H, env_cons, Nat.reduceEqDiff, dcl_some, DV.flat, true_and, fl65_2, la9, lo_str, o_max, m_max, o_len, dl9, o_min, m_min, o_slice, Option.map_some, true_implies, Bool.not_false, and_true]
          refine app41 (hs2 _) ?_
          simp only [List.length_set, hold_app2, mk_called, Pos.isHp, List.filter_nil, mk_put?_some, dropLk, hold_app, tS_cons, g_none, o_nilCheck, dnil, Nat.reduceLT, rho_tmp, Nat.reduceBEq, look_miss, look_hit, o_fieldAddr, fp57_1, Nat.zero_add, o_store, take_tmp, takK, DV.roA, DV.ro, st_h, hs1', shelfC, sth_some, us54, DV.cells, List.length_cons, List.length_nil, cn54, List.all_cons, DV.scalar, List.all_nil, Bool.and_self, Nat.reduceAdd, Nat.reduceLeDiff, putAt_eq, List.take_succ_cons, List.take_zero, List.cons_append, List.nil_append, List.drop_succ_cons, List.drop_zero, mk_setH, Pos.inHp, fp57_2, take_const, constDV, Proofs.Try.underlying55, cn65, List.getElem?_set_self', Option.map_eq_map, Option.map_some, Function.const_apply, Option.isSome_some, cn55, List.set_set, tS_nil, ret_none', true_and]
          exact hKf hf
        · have ei : i = nn := by omega
          subst ei
          have hf : f = foldA kept (acts.take i) := by rcases hf with h | h; exact h.2; omega
          have hc := crash_at i (max y 0).toNat acts kept e
          rw [hai, ← hf] at hc
          by_cases k3 : ak = 3
          · simp only [w_seq, w_region, mk_clean, tS_cons, g_none, hold_app, o_bin, nil_tmp, Bool.false_eq_true, Nat.reduceLT, rho_tmp, Nat.reduceBEq, look_miss, look_hit, b_lss, e1, decide_true, mk_put?_some, dropLk, tS_nil, hold_app2, w_cond, cd, w_skip, w_block, o_move, move_tmp, movK, DV.roA, DV.ro, o_indexAddr, ix55, e0, List.length_map, DV.cells, Int.toNat_natCast, hat, k3, o_load, ld_vptr, la65, List.length_cons, List.length_nil, Nat.zero_add, Nat.reduceAdd, Nat.reduceLeDiff, List.take_succ_cons, List.take_zero, List.map_cons, DV.ro1, List.map_nil, lo_agg, o_alloc, zo65, oc65, List.all_cons, DV.scalar, List.all_nil, Bool.and_self, nv65, hb2, hb1, o_assign, take_tmp, takK, mk_put, o_store, st_b, bget_cons, bget_nil, if_true, stb_some, us65, cn65, putAt_eq, List.nil_append, List.drop_succ_cons, List.drop_nil, List.append_nil, mk_setB, bset_cons, bset_nil, Pos.inBox, List.filter_nil, c1, decide_false, false_implies, b_gtr, g_some, gq_succ, gq_zero, gs1_eq, gs2_bool, mk_setT, o_fieldAddr, fl65_0, Nat.add_zero, ld_b, dlb_some, List.drop_zero, la3, lo_int, nil_int, rho_const, constDV, b_eql, o_pick, pk, if_false, Bool.true_eq_false, w_exit, reduceCtorEq, b_add, mk_forget, o_nilCheck, dnil, fp57_0, ld_h, hs1, shelfC, dlh_some, la54, lo_map, o_fn, args_cons, args_nil, mk_H, env_cons, Nat.reduceEqDiff, dcl_some, DV.flat, true_and, fl65_2, la9, lo_str, o_max, m_max, o_len, dl9, o_min, m_min, o_slice, Option.map_some, true_implies, Bool.not_false, and_true]
            refine app41 (hs2 _) ?_
            simp only [List.length_set, hold_app2, mk_called, Pos.isHp, List.filter_nil, mk_put?_some, dropLk, hold_app, tS_cons, g_none, o_nilCheck, dnil, Nat.reduceLT, rho_tmp, Nat.reduceBEq, look_miss, look_hit, o_fieldAddr, fp57_1, Nat.zero_add, o_store, take_tmp, takK, DV.roA, DV.ro, st_h, hs1', shelfC, sth_some, us54, DV.cells, List.length_cons, List.length_nil, cn54, List.all_cons, DV.scalar, List.all_nil, Bool.and_self, Nat.reduceAdd, Nat.reduceLeDiff, putAt_eq, List.take_succ_cons, List.take_zero, List.cons_append, List.nil_append, List.drop_succ_cons, List.drop_zero, mk_setH, Pos.inHp, fp57_2, take_const, constDV, Proofs.Try.underlying55, cn65, List.getElem?_set_self', Option.map_eq_map, Option.map_some, Function.const_apply, Option.isSome_some, cn55, List.set_set, tS_nil, ret_none', true_and]
            exact hKf (by rw [hc]; simp [tornF, k3])
          · by_cases k4 : ak = 4
            · simp only [w_seq, w_region, mk_clean, tS_cons, g_none, hold_app, o_bin, nil_tmp, Bool.false_eq_true, Nat.reduceLT, rho_tmp, Nat.reduceBEq, look_miss, look_hit, b_lss, e1, decide_true, mk_put?_some, dropLk, tS_nil, hold_app2, w_cond, cd, w_skip, w_block, o_move, move_tmp, movK, DV.roA, DV.ro, o_indexAddr, ix55, e0, List.length_map, DV.cells, Int.toNat_natCast, hat, k4, o_load, ld_vptr, la65, List.length_cons, List.length_nil, Nat.zero_add, Nat.reduceAdd, Nat.reduceLeDiff, List.take_succ_cons, List.take_zero, List.map_cons, DV.ro1, List.map_nil, lo_agg, o_alloc, zo65, oc65, List.all_cons, DV.scalar, List.all_nil, Bool.and_self, nv65, hb2, hb1, o_assign, take_tmp, takK, mk_put, o_store, st_b, bget_cons, bget_nil, if_true, stb_some, us65, cn65, putAt_eq, List.nil_append, List.drop_succ_cons, List.drop_nil, List.append_nil, mk_setB, bset_cons, bset_nil, Pos.inBox, List.filter_nil, c1, decide_false, false_implies, b_gtr, g_some, gq_succ, gq_zero, gs1_eq, gs2_bool, mk_setT, o_fieldAddr, fl65_0, Nat.add_zero, ld_b, dlb_some, List.drop_zero, la3, lo_int, nil_int, rho_const, constDV, b_eql, Int.reduceEq, o_pick, pk, if_false, w_exit, reduceCtorEq, b_add, mk_forget, o_nilCheck, dnil, fp57_0, ld_h, hs1, shelfC, dlh_some, la54, lo_map, o_fn, args_cons, args_nil, mk_H, env_cons, Nat.reduceEqDiff, dcl_some, DV.flat, true_and, true_implies, Bool.true_eq_false, fl65_2, la9, lo_str, o_max, m_max, o_len, dl9, o_min, m_min, o_slice, Option.map_some, and_true, Bool.not_false]
              refine app41 (hs2 _) ?_
              simp only [List.length_set, hold_app2, mk_called, Pos.isHp, List.filter_nil, mk_put?_some, dropLk, hold_app, tS_cons, g_none, o_nilCheck, dnil, Nat.reduceLT, rho_tmp, Nat.reduceBEq, look_miss, look_hit, o_fieldAddr, fp57_1, Nat.zero_add, o_store, take_tmp, takK, DV.roA, DV.ro, st_h, hs1', shelfC, sth_some, us54, DV.cells, List.length_cons, List.length_nil, cn54, List.all_cons, DV.scalar, List.all_nil, Bool.and_self, Nat.reduceAdd, Nat.reduceLeDiff, putAt_eq, List.take_succ_cons, List.take_zero, List.cons_append, List.nil_append, List.drop_succ_cons, List.drop_zero, mk_setH, Pos.inHp, fp57_2, take_const, constDV, Proofs.Try.underlying55, cn65, List.getElem?_set_self', Option.map_eq_map, Option.map_some, Function.const_apply, Option.isSome_some, cn55, List.set_set, tS_nil, ret_none', true_and]
              exact hKf (by rw [hc]; simp [tornF, k4])
            · have hm : (if (ab.length : Int) < if y < 0 then 0 else y then (ab.length : Int) else if y < 0 then 0 else y) = ((min (max y 0).toNat ab.length : Nat) : Int) := by split <;> split <;> omega
              have htk : ab.take (min (max y 0).toNat ab.length) = ab.take (max y 0).toNat := by rw [Nat.min_comm, ← List.take_take, List.take_of_length_le (List.length_take_le' _ _)]
              have hm2 : min (max y 0).toNat ab.length ≤ ab.length := Nat.min_le_right _ _
              have hm3 : (ab.take (max y 0).toNat).length ≤ ab.length := List.length_take_le' _ _
              by_cases k1 : ak = 1
              · by_cases k2 : ab.take (max y 0).toNat = []
                · simp only [w_seq, w_region, mk_clean, tS_cons, g_none, hold_app, o_bin, nil_tmp, Bool.false_eq_true, Nat.reduceLT, rho_tmp, Nat.reduceBEq, look_miss, look_hit, b_lss, e1, decide_true, mk_put?_some, dropLk, tS_nil, hold_app2, w_cond, cd, w_skip, w_block, o_move, move_tmp, movK, DV.roA, DV.ro, o_indexAddr, ix55, e0, List.length_map, DV.cells, Int.toNat_natCast, hat, k1, o_load, ld_vptr, la65, List.length_cons, List.length_nil, Nat.zero_add, Nat.reduceAdd, Nat.reduceLeDiff, List.take_succ_cons, List.take_zero, List.map_cons, DV.ro1, List.map_nil, lo_agg, o_alloc, zo65, oc65, List.all_cons, DV.scalar, List.all_nil, Bool.and_self, nv65, hb2, hb1, o_assign, take_tmp, takK, mk_put, o_store, st_b, bget_cons, bget_nil, if_true, stb_some, us65, cn65, putAt_eq, List.nil_append, List.drop_succ_cons, List.drop_nil, List.append_nil, mk_setB, bset_cons, bset_nil, Pos.inBox, List.filter_nil, c1, decide_false, false_implies, b_gtr, g_some, gq_succ, gq_zero, gs1_eq, gs2_bool, mk_setT, o_fieldAddr, fl65_0, Nat.add_zero, ld_b, dlb_some, List.drop_zero, la3, lo_int, nil_int, rho_const, constDV, b_eql, Int.reduceEq, o_pick, pk, if_false, w_exit, reduceCtorEq, b_add, mk_forget, o_nilCheck, dnil, fp57_0, ld_h, hs1, shelfC, dlh_some, la54, lo_map, o_fn, args_cons, args_nil, mk_H, env_cons, Nat.reduceEqDiff, dcl_some, DV.flat, true_and, fl65_2, la9, lo_str, o_max, m_max, o_len, dl9, o_min, m_min, hm, o_slice, Option.map_none, Option.map_some, dsl9, us9, cn9, List.cons_append, nil_str, s_eql, true_implies, Bool.not_true, Bool.true_eq_false, and_true, db_none, db_some, htk, k2, Bool.not_false]
                  refine ⟨by omega, by omega, ?_⟩
                  refine app41 (hs2 _) ?_
                  simp only [List.length_set, hold_app2, List.drop_zero, mk_called, Pos.isHp, List.filter_nil, mk_put?_some, dropLk, hold_app, tS_cons, g_none, o_nilCheck, dnil, Nat.reduceLT, rho_tmp, Nat.reduceBEq, look_miss, look_hit, o_fieldAddr, fp57_1, Nat.zero_add, o_store, take_tmp, takK, DV.roA, DV.ro, st_h, hs1', shelfC, sth_some, us54, DV.cells, List.length_cons, List.length_nil, cn54, List.all_cons, DV.scalar, List.all_nil, Bool.and_self, Nat.reduceAdd, Nat.reduceLeDiff, putAt_eq, List.take_succ_cons, List.take_zero, List.cons_append, List.nil_append, List.drop_succ_cons, mk_setH, Pos.inHp, fp57_2, take_const, constDV, Proofs.Try.underlying55, cn65, List.getElem?_set_self', Option.map_eq_map, Option.map_some, Function.const_apply, Option.isSome_some, cn55, List.set_set, tS_nil, ret_none', true_and]
                  exact hKf (by rw [hc]; simp [tornF, k1, k2])
                · simp only [w_seq, w_region, mk_clean, tS_cons, g_none, hold_app, o_bin, nil_tmp, Bool.false_eq_true, Nat.reduceLT, rho_tmp, Nat.reduceBEq, look_miss, look_hit, b_lss, e1, decide_true, mk_put?_some, dropLk, tS_nil, hold_app2, w_cond, cd, w_skip, w_block, o_move, move_tmp, movK, DV.roA, DV.ro, o_indexAddr, ix55, e0, List.length_map, DV.cells, Int.toNat_natCast, hat, k1, o_load, ld_vptr, la65, List.length_cons, List.length_nil, Nat.zero_add, Nat.reduceAdd, Nat.reduceLeDiff, List.take_succ_cons, List.take_zero, List.map_cons, DV.ro1, List.map_nil, lo_agg, o_alloc, zo65, oc65, List.all_cons, DV.scalar, List.all_nil, Bool.and_self, nv65, hb2, hb1, o_assign, take_tmp, takK, mk_put, o_store, st_b, bget_cons, bget_nil, if_true, stb_some, us65, cn65, putAt_eq, List.nil_append, List.drop_succ_cons, List.drop_nil, List.append_nil, mk_setB, bset_cons, bset_nil, Pos.inBox, List.filter_nil, c1, decide_false, false_implies, b_gtr, g_some, gq_succ, gq_zero, gs1_eq, gs2_bool, mk_setT, o_fieldAddr, fl65_0, Nat.add_zero, ld_b, dlb_some, List.drop_zero, la3, lo_int, nil_int, rho_const, constDV, b_eql, Int.reduceEq, o_pick, pk, if_false, w_exit, reduceCtorEq, b_add, mk_forget, o_nilCheck, dnil, fp57_0, ld_h, hs1, shelfC, dlh_some, la54, lo_map, o_fn, args_cons, args_nil, mk_H, env_cons, Nat.reduceEqDiff, dcl_some, DV.flat, true_and, fl65_2, la9, lo_str, o_max, m_max, o_len, dl9, o_min, m_min, hm, o_slice, Option.map_none, Option.map_some, dsl9, us9, cn9, List.cons_append, nil_str, s_eql, true_implies, Bool.not_true, Bool.true_eq_false, and_true, db_none, db_some, htk, k2, Bool.not_false]
                  refine ⟨by omega, by omega, ?_⟩
                  refine w_draw [5] (.quiet 0 (.quiet 1 (.quiet 2 (.quiet 3 (.quiet 4 (.acts [(5, [], .done)])))))) (by decide) (by kernel_rfl) ?_
                  simp only [mk_clean, rp_quiet, rpQ_zero, g_none, hold_app, q_move, DV.roA, Nat.reduceLT, rho_tmp, Nat.reduceBEq, look_miss, look_hit, DV.ro, ex_eq, mk_put, dropLk, rpQ_succ, q_nilCheck, dnil, q_fieldAddr, fp57_0, Nat.add_zero, q_load, ld_h, hs1, shelfC, dlh_some, List.drop_zero, la54, ld_b, bget_cons, bget_nil, if_true, dlb_some, la65, List.length_cons, List.length_nil, Nat.zero_add, Nat.reduceAdd, Nat.reduceLeDiff, List.take_succ_cons, List.take_zero, List.map_cons, DV.ro1, List.map_nil, true_and, rp_acts, ra_cons, rpA_succ, rpA_zero, o_fn, args_cons, args_nil, mk_H, env_cons, Nat.reduceEqDiff, if_false, dcl_some, List.all_cons, DV.flat, List.all_nil, Bool.and_self, ra_nil, and_true]
                  refine app42 f ⟨1, an, ab.take (max y 0).toNat⟩ (hs2 _) ?_ ?_
                  · have h1 := usedF_fold (acts.take i) kept
                    have h2 := sumB_at e
                    have h3 := getF_used an f
                    rw [hai] at h2
                    rw [← hf] at h1
                    simp only at h2 ⊢
                    omega
                  · simp only [List.set_set, hold_app2, mk_called, Pos.isHp, List.filter_nil, mk_put?_some, dropLk, hold_app, rcA_nil, slL_nil, mk_unlink, dropLks, rp_done, w_region, mk_clean, tS_cons, g_none, o_bin, nil_int, Bool.false_eq_true, Nat.reduceLT, rho_tmp, Nat.reduceBEq, look_miss, look_hit, rho_const, constDV, b_add, o_move, move_tmp, movK, DV.roA, DV.ro, tS_nil, mk_forget, List.map_cons, List.map_nil, if_false, true_and]
                    refine ⟨acts.length - (i + 1), by omega, i + 1, doesF ⟨1, an, ab.take (max y 0).toNat⟩ f, [(7, g, [.int .i64 1, .str an, .str (ab.take (max y 0).toNat)])], by omega, rfl, .inr ⟨rfl, by rw [hc]; simp [tornF, k1, k2]⟩, .inr ⟨_, _, rfl⟩, ?_⟩
                    rw [wrap_i64 (by omega) (by omega)]
                    rfl
              · simp only [w_seq, w_region, mk_clean, tS_cons, g_none, hold_app, o_bin, nil_tmp, Bool.false_eq_true, Nat.reduceLT, rho_tmp, Nat.reduceBEq, look_miss, look_hit, b_lss, e1, decide_true, mk_put?_some, dropLk, tS_nil, hold_app2, w_cond, cd, w_skip, w_block, o_move, move_tmp, movK, DV.roA, DV.ro, o_indexAddr, ix55, e0, List.length_map, DV.cells, Int.toNat_natCast, hat, o_load, ld_vptr, la65, List.length_cons, List.length_nil, Nat.zero_add, Nat.reduceAdd, Nat.reduceLeDiff, List.take_succ_cons, List.take_zero, List.map_cons, DV.ro1, List.map_nil, lo_agg, o_alloc, zo65, oc65, List.all_cons, DV.scalar, List.all_nil, Bool.and_self, nv65, hb2, hb1, o_assign, take_tmp, takK, mk_put, o_store, st_b, bget_cons, bget_nil, if_true, stb_some, us65, cn65, putAt_eq, List.nil_append, List.drop_succ_cons, List.drop_nil, List.append_nil, mk_setB, bset_cons, bset_nil, Pos.inBox, List.filter_nil, c1, decide_false, false_implies, b_gtr, g_some, gq_succ, gq_zero, gs1_eq, gs2_bool, mk_setT, o_fieldAddr, fl65_0, Nat.add_zero, ld_b, dlb_some, List.drop_zero, la3, lo_int, nil_int, rho_const, constDV, b_eql, k3, o_pick, pk, if_false, k4, w_exit, reduceCtorEq, b_add, mk_forget, o_nilCheck, dnil, fp57_0, ld_h, hs1, shelfC, dlh_some, la54, lo_map, o_fn, args_cons, args_nil, mk_H, env_cons, Nat.reduceEqDiff, dcl_some, DV.flat, true_and, fl65_2, la9, lo_str, o_max, m_max, o_len, dl9, o_min, m_min, hm, o_slice, Option.map_none, Option.map_some, dsl9, us9, cn9, List.cons_append, k1, nil_str, s_eql, true_implies, Bool.not_true, Bool.true_eq_false, and_true, db_none, db_some, htk, Bool.not_false]
                refine ⟨by omega, by omega, ?_⟩
                refine w_draw [5] (.quiet 0 (.quiet 1 (.quiet 2 (.quiet 3 (.quiet 4 (.acts [(5, [], .done)])))))) (by decide) (by kernel_rfl) ?_
                simp only [mk_clean, rp_quiet, rpQ_zero, g_none, hold_app, q_move, DV.roA, Nat.reduceLT, rho_tmp, Nat.reduceBEq, look_miss, look_hit, DV.ro, ex_eq, mk_put, dropLk, rpQ_succ, q_nilCheck, dnil, q_fieldAddr, fp57_0, Nat.add_zero, q_load, ld_h, hs1, shelfC, dlh_some, List.drop_zero, la54, ld_b, bget_cons, bget_nil, if_true, dlb_some, la65, List.length_cons, List.length_nil, Nat.zero_add, Nat.reduceAdd, Nat.reduceLeDiff, List.take_succ_cons, List.take_zero, List.map_cons, DV.ro1, List.map_nil, true_and, rp_acts, ra_cons, rpA_succ, rpA_zero, o_fn, args_cons, args_nil, mk_H, env_cons, Nat.reduceEqDiff, if_false, dcl_some, List.all_cons, DV.flat, List.all_nil, Bool.and_self, ra_nil, and_true]
                refine app42 f ⟨ak, an, ab.take (max y 0).toNat⟩ (hs2 _) ?_ ?_
                · have h1 := usedF_fold (acts.take i) kept
                  have h2 := sumB_at e
                  have h3 := getF_used an f
                  rw [hai] at h2
                  rw [← hf] at h1
                  simp only at h2 ⊢
                  omega
                · simp only [List.set_set, hold_app2, mk_called, Pos.isHp, List.filter_nil, mk_put?_some, dropLk, hold_app, rcA_nil, slL_nil, mk_unlink, dropLks, rp_done, w_region, mk_clean, tS_cons, g_none, o_bin, nil_int, Bool.false_eq_true, Nat.reduceLT, rho_tmp, Nat.reduceBEq, look_miss, look_hit, rho_const, constDV, b_add, o_move, move_tmp, movK, DV.roA, DV.ro, tS_nil, mk_forget, List.map_cons, List.map_nil, if_false, true_and]
                  refine ⟨acts.length - (i + 1), by omega, i + 1, doesF ⟨ak, an, ab.take (max y 0).toNat⟩ f, [(7, g, [.int .i64 ak, .str an, .str (ab.take (max y 0).toNat)])], by omega, rfl, .inr ⟨rfl, by rw [hc]; simp [tornF, k1, k3, k4]⟩, .inr ⟨_, _, rfl⟩, ?_⟩
                  rw [wrap_i64 (by omega) (by omega)]
                  rfl
    · have hf : f = crashF nn (max y 0).toNat acts kept := by
        rcases hf with h | h
        · have e2 : i = acts.length := by omega
          have e3 : nn = acts.length := by omega
          rw [h.2, e3, crash_end, e2, List.take_length]
        · exact h.2
      have e1 : ¬ (i : Int) < acts.length := by omega
      simp only [w_seq, w_region, mk_clean, tS_cons, g_none, hold_app, o_bin, nil_tmp, Bool.false_eq_true, Nat.reduceLT, rho_tmp, Nat.reduceBEq, look_miss, look_hit, b_lss, e1, decide_false, mk_put?_some, dropLk, tS_nil, hold_app2, w_cond, cd, w_skip, w_block, o_move, move_tmp, movK, DV.roA, DV.ro, o_indexAddr, ix55, List.length_map, DV.cells, Int.toNat_natCast, o_load, ld_vptr, la65, lo_agg, o_alloc, nv65, o_assign, take_tmp, takK, mk_put, o_store, st_b, false_implies, w_exit, o_nilCheck, dnil, o_fieldAddr, fp57_0, Nat.add_zero, ld_h, hs1, shelfC, dlh_some, List.drop_zero, la54, lo_map, o_fn, args_cons, args_nil, mk_H, env_cons, Nat.reduceEqDiff, if_false, if_true, dcl_some, List.all_cons, DV.flat, List.all_nil, Bool.and_self, List.map_cons, List.map_nil, true_and, true_implies]
      refine app41 (hs2 _) ?_
      simp only [List.length_set, hold_app2, mk_called, Pos.isHp, List.filter_nil, mk_put?_some, dropLk, hold_app, tS_cons, g_none, o_nilCheck, dnil, Nat.reduceLT, rho_tmp, Nat.reduceBEq, look_miss, look_hit, o_fieldAddr, fp57_1, Nat.zero_add, o_store, take_tmp, takK, DV.roA, DV.ro, st_h, hs1', shelfC, sth_some, us54, DV.cells, List.length_cons, List.length_nil, cn54, List.all_cons, DV.scalar, List.all_nil, Bool.and_self, Nat.reduceAdd, Nat.reduceLeDiff, putAt_eq, List.take_succ_cons, List.take_zero, List.cons_append, List.nil_append, List.drop_succ_cons, List.drop_zero, mk_setH, Pos.inHp, fp57_2, take_const, constDV, Proofs.Try.underlying55, cn65, List.getElem?_set_self', Option.map_eq_map, Option.map_some, Function.const_apply, Option.isSome_some, cn55, List.set_set, tS_nil, ret_none', true_and]
      exact hKf hf
end Go.Ab.Sh
