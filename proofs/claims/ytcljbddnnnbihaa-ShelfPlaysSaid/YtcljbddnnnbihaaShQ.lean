/- A part of the proofs that a law function returns true at every input; it has no condition of its own. -/
import Derived.Test.YtcljbddnnnbihaaShR7
set_option linter.unusedSimpArgs false
set_option linter.unusedVariables false
/- ShQ: The reference shelf: Crash. -/
namespace Go.Ab.Sh
open Go Go.Conc Go.RowKit Go.Ab
set_option maxRecDepth 10000
def foldR (f : Files) (l : List Act) : Files := l.foldl (fun f a => rdoneF f a) f
def rtornF (a : Act) (k : Nat) (f : Files) : Files := if a.kind ≤ 2 ∧ a.b.take k ≠ [] then rdoneF f { a with b := a.b.take k } else f
def rcrashF (n k : Nat) (acts : List Act) (f : Files) : Files := match acts.drop n with
  | [] => foldR f (acts.take n)
  | a :: _ => rtornF a k (foldR f (acts.take n))
theorem foldR_take (f : Files) (l : List Act) (i : Nat) (h : i < l.length) : foldR f (l.take (i + 1)) = rdoneF (foldR f (l.take i)) l[i] := by
  rw [List.take_succ_eq_append_getElem h]
  unfold foldR
  rw [List.foldl_append]
  rfl
theorem rcrash_at (n k : Nat) (l : List Act) (f : Files) (h : n < l.length) : rcrashF n k l f = rtornF l[n] k (foldR f (l.take n)) := by
  unfold rcrashF
  rw [List.drop_eq_getElem_cons h]
theorem rcrash_end (k : Nat) (l : List Act) (f : Files) : rcrashF l.length k l f = foldR f l := by simp [rcrashF]
theorem oc69 : ofCells pp 69 (zeroDV pp 6 69) = .agg [.int .i64 0, .str [], .str []] := by rw [zd69_6]; kernel_rfl
theorem zo69 : zeroOk pp 69 (zeroDV pp 6 69) = true := by rw [zd69_6]; exact zo69_4
def RefAtO (H : List HObj) (id : Nat) (o : Bool) (l kept : Files) (acts : List Act) (most : Int) : Prop := H[id]? = some (.cells [.sl o 2 (l.map fileD), .sl false 2 (kept.map fileD), .sl false 3 (acts.map actD), .int .i64 most])
def S21o : Spec := fun H args K => ∃ id o l kept acts most, args = [.ptr id 0] ∧ RefAtO H id o l kept acts most ∧ K (H.set id (.cells (refC l l [] most))) (.tup [])
def S21p : Spec := fun H args K => ∃ id o l kept acts most, args = [.ptr id 0] ∧ RefAtO H id o l kept acts most ∧ ∀ o1 o2, K (H.set id (.cells [.sl o1 2 (l.map fileD), .sl o2 2 (l.map fileD), .sl true 3 [], .int .i64 most])) (.tup [])
theorem rc21p {I : Jd pp} (hI : ∀ w e, I.Ok w e) : RC I 21 S21p := by
  refine rc_of_code (isObj := isO) (Γ := envOf []) (rs := []) mixed hI (envOf_rc (by simp)) Go.Proofs.Try.func21 (by kernel_rfl) hb21 Go.Proofs.Try.results21 Go.Proofs.Try.ntmps21 (by decide) ?_
  rintro H args K ⟨id, o, l, kept, acts, most, rfl, hs, hK⟩
  have h1 : H[id]? = some _ := hs
  refine ⟨by simp, rfl, ?_⟩
  unfold b21 Go.Proofs.Try.f21
  cases o
  · simp only [Option.getD_some, argSlots, DV.ro, w_seq, w_region, mk_clean, tS_cons, g_none, hold_app, o_move, Nat.reduceLT, move_tmp, movK, look_hit, DV.roA, dropLk, Nat.reduceBEq, look_miss, o_nilCheck, dnil, rho_tmp, mk_put?_some, o_fieldAddr, fp61_0, Nat.add_zero, o_load, ld_h, h1, dlh_some, List.drop_zero, la58, lo_sl, addrPos, ia58, Bool.false_eq_true, if_false, Pos.atSlot, Bool.or_false, fp61_1, Nat.zero_add, o_store, take_tmp, takK, lkGet, if_true, own_hp, ohp_some, List.getElem?_cons_zero, ownSz_f, reduceCtorEq, un_hp, unh_some, listRo_eq, DV.ro1, List.getD_cons_zero, List.set_cons_zero, st_h, sth_some, Proofs.Try.underlying58, Option.isSome_some, DV.cells, List.length_cons, List.length_nil, cn58, List.all_cons, DV.scalar, List.all_nil, Bool.and_self, Nat.reduceAdd, Nat.reduceLeDiff, putAt_eq, List.take_succ_cons, List.take_zero, List.cons_append, List.nil_append, List.drop_succ_cons, mk_setH, Pos.inHp, List.filter_cons, List.filter_nil, tS_nil, hold_app2, fp61_2, take_const, constDV, Proofs.Try.underlying59, cn69, List.getElem?_set_self', Option.map_eq_map, Option.map_some, Function.const_apply, cn59, List.set_set, ret_none', true_and]
    exact hK _ _
  · simp only [Option.getD_some, argSlots, DV.ro, w_seq, w_region, mk_clean, tS_cons, g_none, hold_app, o_move, Nat.reduceLT, move_tmp, movK, look_hit, DV.roA, dropLk, Nat.reduceBEq, look_miss, o_nilCheck, dnil, rho_tmp, mk_put?_some, o_fieldAddr, fp61_0, Nat.add_zero, o_load, ld_h, h1, dlh_some, List.drop_zero, la58, lo_sl, addrPos, ia58, Bool.false_eq_true, if_false, Pos.atSlot, Bool.or_false, fp61_1, Nat.zero_add, o_store, take_tmp, takK, lkGet, if_true, own_hp, ohp_some, List.getElem?_cons_zero, ownSz_t, un_hp, unh_some, listRo_eq, DV.ro1, List.getD_cons_zero, List.set_cons_zero, st_h, List.getElem?_set_self', Option.map_eq_map, Option.map_some, Function.const_apply, sth_some, Proofs.Try.underlying58, Option.isSome_some, DV.cells, List.length_cons, List.length_nil, cn58, List.all_cons, DV.scalar, List.all_nil, Bool.and_self, Nat.reduceAdd, Nat.reduceLeDiff, putAt_eq, List.take_succ_cons, List.take_zero, List.cons_append, List.nil_append, List.drop_succ_cons, mk_setH, List.set_set, Pos.inHp, List.filter_cons, List.filter_nil, tS_nil, hold_app2, fp61_2, take_const, constDV, Proofs.Try.underlying59, cn69, cn59, ret_none', true_and]
    exact hK _ _
theorem rc21o {I : Jd pp} (hI : ∀ w e, I.Ok w e) : RC I 21 S21o := by
  refine (rc21p hI).wk ?_
  rintro H args K ⟨id, o, l, kept, acts, most, rfl, h1, hK⟩
  refine ⟨id, o, l, kept, acts, most, rfl, h1, fun o1 o2 => ⟨_, HLess.set ⟨by simp [refC], fun j c' hc => ?_⟩, hK⟩⟩
  match j with
  | 0 => cases hc; exact ⟨_, rfl, .inr (.inl rfl)⟩
  | 1 => cases hc; exact ⟨_, rfl, .inr (.inl rfl)⟩
  | 2 => cases hc; exact ⟨_, rfl, .inr (.inl rfl)⟩
  | 3 => cases hc; exact ⟨_, rfl, .inl ⟨rfl, rfl⟩⟩
  | j + 4 => simp [refC] at hc
theorem app21o {H : List HObj} {K : List HObj → DV → Prop} {id : Nat} (o : Bool) {l kept : Files} {acts : List Act} {most : Int} (h1 : RefAtO H id o l kept acts most) (h : K (H.set id (.cells (refC l l [] most))) (.tup [])) : app S21o H [.ptr id 0] K := ⟨id, o, l, kept, acts, most, rfl, h1, h⟩
noncomputable def b25 : Code := (Go.Proofs.Try.f25.body).getD .skip
theorem hb25 : Go.Proofs.Try.f25.body = some b25 := by kernel_rfl
/-- ref's Crash. -/
def S25 : Spec := fun H args K => ∃ id l kept acts most x y, args = [.ptr id 0, .int .i64 x, .int .i64 y] ∧ RefAt H id l kept acts most ∧ acts.length < 100000 ∧
  (∀ (i : Nat) (h : i < acts.length), (foldR kept (acts.take i)).length < 100000 ∧ ((acts[i].kind = 2 ∨ acts[i].kind = 3) → 0 ≤ findI (foldR kept (acts.take i)) acts[i].name) ∧ usedF (foldR kept (acts.take i)) + acts[i].b.length < 4611686018427387904) ∧
  K (H.set id (.cells (refC (rcrashF (min (max x 0) acts.length).toNat (max y 0).toNat acts kept) (rcrashF (min (max x 0) acts.length).toNat (max y 0).toNat acts kept) [] most))) (.tup [])
def M25 (H : List HObj) (id : Nat) (kept : Files) (acts : List Act) (y : Int) (nn : Nat) (m : Nat) (st : St) : Prop := ∃ (i : Nat) (o : Bool), i ≤ nn ∧ m = nn - i ∧
  st = mk 84 [(0, .ptr id 0), (2, .int .i64 y), (6, .int .i64 nn), (7, .sl o 2 ((foldR kept (acts.take i)).map fileD)), (8, .int .i64 i)] [] H []
set_option maxHeartbeats 2000000 in
theorem rc25 {I : Jd pp} (hI : ∀ w e, I.Ok w e) : RC I 25 S25 := by
  refine rc_of_code (isObj := isO) (Γ := envOf [(43, S43), (21, S21o)]) (rs := []) mixed hI (envOf_rc (by simpa using ⟨rc43 hI, rc21o hI⟩)) Go.Proofs.Try.func25 (by kernel_rfl) hb25 Go.Proofs.Try.results25 Go.Proofs.Try.ntmps25 (by decide) ?_
  rintro H args K ⟨id, l, kept, acts, most, x, y, rfl, hs, hlen, hv, hK⟩
  have h1 : H[id]? = some (.cells (refC l kept acts most)) := hs
  have hid : id < H.length := (List.getElem?_eq_some_iff.1 h1).1
  refine ⟨by simp, rfl, ?_⟩
  unfold b25 Go.Proofs.Try.f25
  simp only [Option.getD_some, argSlots, DV.ro, Nat.zero_add, Nat.reduceAdd, w_seq, w_region, mk_clean, tS_cons, g_none, hold_app, o_move, Nat.reduceLT, move_tmp, movK, Nat.reduceBEq, look_miss, look_hit, DV.roA, dropLk, o_nilCheck, dnil, rho_tmp, mk_put?_some, o_fieldAddr, fp61_2, o_load, ld_h, h1, refC, dlh_some, List.drop_succ_cons, List.drop_zero, la59, lo_sl, addrPos, ia59, Bool.false_eq_true, if_false, o_len, dl59, List.length_map, Pos.atSlot, Bool.or_false, o_min, m_min, o_max, rho_const, constDV, m_max, o_assign, take_tmp, takK, mk_put, tS_nil, hold_app2, fp61_1, la58, ia58, lkGet, if_true, own_hp, ohp_some, List.getElem?_cons_succ, List.getElem?_cons_zero, ownSz_f, reduceCtorEq, un_hp, unh_some, listRo_eq, DV.ro1, List.getD_cons_succ, List.getD_cons_zero, List.set_cons_succ, List.set_cons_zero, take_const, w_block]
  generalize hnn : (min (max x 0) (acts.length : Int)).toNat = nn at hK
  have hn1 : nn ≤ acts.length := by omega
  have hmin : (if 0 < (if (acts.length : Int) < x then (acts.length : Int) else x) then (if (acts.length : Int) < x then (acts.length : Int) else x) else 0) = (nn : Int) := by split <;> split at * <;> omega
  rw [hmin]
  refine w_loop [0, 2, 6, 7, 8] (M25 H id kept acts y nn) nn ?_ ?_
  · exact ⟨0, false, by omega, by omega, by simp only [mk_forget, List.map_cons, Nat.reduceBEq, look_miss, look_hit, List.map_nil, List.take_zero]; rfl⟩
  · rintro m st ⟨i, o, hi, rfl, rfl⟩
    by_cases e : i < nn
    · have e1 : (i : Int) < nn := by omega
      have e0 : (0 : Int) ≤ i := by omega
      have hl : i < acts.length := by omega
      have e2 : (i : Int) < acts.length := by omega
      obtain ⟨q1, q2, q3⟩ := hv i hl
      obtain ⟨ak, an, ab, hai⟩ : ∃ ak an ab, acts[i] = (⟨ak, an, ab⟩ : Act) := ⟨_, _, _, rfl⟩
      have hat : (acts.map actD).getD i .undef = .agg [.int .i64 ak, .str an, .str ab] := by rw [actD_at hl, hai]; rfl
      have hfold := foldR_take kept acts i hl
      have hu := atD_used (foldR kept (acts.take i)) (findI (foldR kept (acts.take i)) an)
      rw [hai] at q2 q3 hfold
      simp only at q2 q3
      have wi : IntKind.i64.wrap ((i : Int) + 1) = ((i + 1 : Nat) : Int) := by rw [wrap_i64 (by omega) (by omega)]; omega
      have hq5 : (atD (foldR kept (acts.take i)) (findI (foldR kept (acts.take i)) an)).length + ab.length ≤ 9223372036854775807 := by omega
      generalize hown : rown ⟨ak, an, ab⟩ = ow
      cases o
      all_goals
        simp only [w_seq, w_region, mk_clean, tS_cons, g_none, hold_app, o_move, Nat.reduceLT, move_tmp, movK, Nat.reduceBEq, look_miss, look_hit, DV.roA, DV.ro, dropLk, o_bin, nil_tmp, Bool.false_eq_true, rho_tmp, b_lss, e1, decide_true, mk_put?_some, tS_nil, hold_app2, w_cond, cd, w_skip, w_block, lkGet, o_nilCheck, dnil, o_fieldAddr, fp61_2, Nat.zero_add, o_load, ld_h, h1, refC, dlh_some, List.drop_succ_cons, List.drop_zero, la59, lo_sl, addrPos, ia59, if_false, Pos.atSlot, Bool.or_false, o_indexAddr, ix59, e0, List.length_map, e2, DV.cells, Int.toNat_natCast, hat, ld_vptr, la69, List.length_cons, List.length_nil, Nat.reduceAdd, Nat.reduceLeDiff, List.take_succ_cons, List.take_zero, List.map_cons, DV.ro1, List.map_nil, lo_agg, o_fn, args_cons, args_nil, mk_H, env_cons, Nat.reduceEqDiff, if_true, dcl_some, List.all_cons, DV.flat, List.all_nil, Bool.and_self, true_and, true_implies, Bool.true_eq_false, w_exit, o_len, dl59, g_some, gq_succ, gq_zero, gs1_eq, gs2_bool, mk_setT, fv69_0, Bool.not_true, nil_int, rho_const, constDV, false_implies, o_pick, pk, o_alloc, nv69, bgen_eq, bget_nil, bset_nil, o_store, take_tmp, takK, st_b, bget_cons, stb_some, us69, cn69, putAt_eq, List.nil_append, mk_setB, bset_cons, Pos.inBox, List.filter_cons, Bool.not_false, List.filter_nil, fl69_2, ld_b, dlb_some, fp61_0, Nat.add_zero, st_h, sth_some, Proofs.Try.underlying58, Option.isSome_some, cn58, DV.scalar, List.cons_append, mk_setH, Pos.inHp, and_true, own_slot, part_sl, ownSz_t, un_slot]
        refine app43 ⟨ak, an, ab⟩ q1 q2 hq5 ?_
        rw [hown]
        cases ow
        · simp only [hold_app2, mk_called, Pos.isHp, List.filter_cons, Bool.not_true, Bool.false_eq_true, List.filter_nil, if_false, mk_put?_some, dropLk, hold_app, tS_cons, g_none, o_assign, Nat.reduceLT, take_tmp, takK, look_hit, lkGet, mk_put, tS_nil, w_region, mk_clean, o_move, move_tmp, movK, Nat.reduceBEq, look_miss, DV.roA, DV.ro, o_bin, nil_int, rho_tmp, rho_const, constDV, b_add, wi, mk_forget, List.map_cons, List.map_nil, Bool.not_false, if_true, Pos.atSlot, Bool.or_false, Nat.reduceEqDiff, Bool.or_true]
          exact ⟨nn - (i + 1), by omega, i + 1, _, by omega, rfl, by rw [hfold]⟩
        · simp only [hold_app2, mk_called, Pos.isHp, List.filter_cons, Bool.not_true, Bool.false_eq_true, List.filter_nil, if_false, mk_put?_some, dropLk, hold_app, tS_cons, g_none, o_assign, Nat.reduceLT, take_tmp, takK, look_hit, mk_put, tS_nil, w_region, mk_clean, o_move, move_tmp, movK, Nat.reduceBEq, look_miss, DV.roA, DV.ro, o_bin, nil_int, rho_tmp, rho_const, constDV, b_add, wi, mk_forget, List.map_cons, List.map_nil, Bool.not_false, if_true, Pos.atSlot, Bool.or_false, Bool.or_true]
          exact ⟨nn - (i + 1), by omega, i + 1, _, by omega, rfl, by rw [hfold]⟩
    · have ei : i = nn := by omega
      subst ei
      have e1 : ¬ (i : Int) < i := by omega
      have hfin : ∀ (o : Bool) (L : Files), L = rcrashF i (max y 0).toNat acts kept → RefAtO (H.set id (.cells [.sl o 2 (L.map fileD), .sl false 2 (kept.map fileD), .sl false 3 (acts.map actD), .int .i64 most])) id o L kept acts most := fun o L h => hset (j := 0) hid
      by_cases hl : i < acts.length
      · have e2 : (i : Int) < acts.length := by omega
        have e0 : (0 : Int) ≤ i := by omega
        obtain ⟨q1, q2, q3⟩ := hv i hl
        obtain ⟨ak, an, ab, hai⟩ : ∃ ak an ab, acts[i] = (⟨ak, an, ab⟩ : Act) := ⟨_, _, _, rfl⟩
        have hat : (acts.map actD).getD i .undef = .agg [.int .i64 ak, .str an, .str ab] := by rw [actD_at hl, hai]; rfl
        have hu := atD_used (foldR kept (acts.take i)) (findI (foldR kept (acts.take i)) an)
        have hc := rcrash_at i (max y 0).toNat acts kept hl
        rw [hai] at q2 q3 hc
        simp only at q2 q3
        by_cases k2 : ak ≤ 2
        · have hm : (if 0 < (if (ab.length : Int) < y then (ab.length : Int) else y) then (if (ab.length : Int) < y then (ab.length : Int) else y) else 0) = ((min (max y 0).toNat ab.length : Nat) : Int) := by split <;> split at * <;> omega
          have htk : ab.take (min (max y 0).toNat ab.length) = ab.take (max y 0).toNat := by rw [Nat.min_comm, ← List.take_take, List.take_of_length_le (List.length_take_le' _ _)]
          have hm2 : min (max y 0).toNat ab.length ≤ ab.length := Nat.min_le_right _ _
          by_cases k3 : (0 : Int) < ((min (max y 0).toNat ab.length : Nat) : Int)
          · have hne : ab.take (max y 0).toNat ≠ [] := by
              intro h
              rw [List.take_eq_nil_iff] at h
              rcases h with h | h
              · omega
              · subst h; simp at k3
            have hc2 : rcrashF i (max y 0).toNat acts kept = rdoneF (foldR kept (acts.take i)) ⟨ak, an, ab.take (max y 0).toNat⟩ := by rw [hc]; simp [rtornF, k2, hne]
            have hm3 : (ab.take (max y 0).toNat).length ≤ ab.length := List.length_take_le' _ _
            have hq5 : (atD (foldR kept (acts.take i)) (findI (foldR kept (acts.take i)) an)).length + (ab.take (max y 0).toNat).length ≤ 9223372036854775807 := by omega
            generalize hown : rown ⟨ak, an, ab.take (max y 0).toNat⟩ = ow
            cases o
            all_goals
              simp only [w_seq, w_region, mk_clean, tS_cons, g_none, hold_app, o_move, Nat.reduceLT, move_tmp, movK, Nat.reduceBEq, look_miss, look_hit, DV.roA, DV.ro, dropLk, o_bin, nil_tmp, Bool.false_eq_true, rho_tmp, b_lss, e1, decide_false, mk_put?_some, tS_nil, hold_app2, w_cond, cd, w_skip, w_block, lkGet, o_nilCheck, dnil, o_fieldAddr, fp61_2, Nat.zero_add, o_load, ld_h, h1, refC, dlh_some, List.drop_succ_cons, List.drop_zero, la59, lo_sl, addrPos, ia59, if_false, Pos.atSlot, Bool.or_false, o_indexAddr, ix59, e0, List.length_map, e2, DV.cells, Int.toNat_natCast, hat, ld_vptr, la69, List.length_cons, List.length_nil, Nat.reduceAdd, Nat.reduceLeDiff, List.take_succ_cons, List.take_zero, List.map_cons, DV.ro1, List.map_nil, lo_agg, o_fn, args_cons, args_nil, mk_H, env_cons, Nat.reduceEqDiff, if_true, dcl_some, List.all_cons, DV.flat, List.all_nil, Bool.and_self, true_and, false_implies, w_exit, o_len, dl59, decide_true, g_some, gq_succ, gq_zero, gs1_eq, gs2_bool, mk_setT, fv69_0, la3, lo_int, nil_int, rho_const, constDV, b_leq, k2, o_pick, pk, o_alloc, zo69, oc69, DV.scalar, nv69, bgen_eq, bget_nil, bset_nil, o_store, take_tmp, takK, st_b, bget_cons, stb_some, us69, cn69, putAt_eq, List.nil_append, List.drop_nil, List.append_nil, mk_setB, bset_cons, Pos.inBox, List.filter_cons, Bool.not_false, List.filter_nil, fl69_2, ld_b, dlb_some, la9, lo_str, dl9, o_min, m_min, o_max, m_max, hm, o_assign, mk_put, o_slice, Option.map_none, Option.map_some, dsl9, us9, cn9, List.cons_append, b_gtr, k3, true_implies, Bool.true_eq_false, fp61_0, Nat.add_zero, st_h, sth_some, Proofs.Try.underlying58, Option.isSome_some, cn58, mk_setH, Pos.inHp, and_true, db_none, db_some, htk, Bool.not_true, own_slot, part_sl, ownSz_t, un_slot]
              refine ⟨by omega, by omega, ?_⟩
              refine app43 ⟨ak, an, ab.take (max y 0).toNat⟩ q1 q2 hq5 ?_
              rw [hown]
              cases ow
              · simp only [hold_app2, List.drop_zero, mk_called, Pos.isHp, List.filter_nil, mk_put?_some, dropLk, hold_app, tS_cons, g_none, o_assign, Nat.reduceLT, take_tmp, takK, look_hit, lkGet, mk_put, tS_nil, w_seq, w_region, mk_clean, o_move, move_tmp, movK, Nat.reduceBEq, look_miss, DV.roA, DV.ro, o_nilCheck, dnil, rho_tmp, o_fieldAddr, fp61_0, Nat.add_zero, o_store, st_h, h1, refC, sth_some, Proofs.Try.underlying58, Option.isSome_some, DV.cells, List.length_cons, List.length_nil, Nat.zero_add, cn58, List.all_cons, DV.scalar, List.all_nil, Bool.and_self, Nat.reduceAdd, Nat.reduceLeDiff, putAt_eq, List.take_zero, List.nil_append, List.drop_succ_cons, List.cons_append, mk_setH, Pos.inHp, o_fn, args_cons, args_nil, mk_H, env_cons, Nat.reduceEqDiff, if_true, if_false, dcl_some, DV.flat, List.map_cons, List.map_nil, true_and, List.filter_cons, Bool.not_false, Pos.atSlot, Bool.or_false, Bool.false_eq_true, Bool.or_true]
                refine app21o _ (hset (j := 0) hid) ?_
                simp only [List.set_set, hold_app2, mk_called, Pos.isHp, List.filter_nil, mk_put?_some, dropLk, hold_app, tS_nil, ret_none']
                rw [← hc2]
                exact hK
              · simp only [hold_app2, List.drop_zero, mk_called, Pos.isHp, List.filter_nil, mk_put?_some, dropLk, hold_app, tS_cons, g_none, o_assign, Nat.reduceLT, take_tmp, takK, look_hit, mk_put, tS_nil, w_seq, w_region, mk_clean, o_move, move_tmp, movK, Nat.reduceBEq, look_miss, DV.roA, DV.ro, Nat.reduceEqDiff, if_false, o_nilCheck, dnil, rho_tmp, Pos.atSlot, Bool.or_false, Bool.false_eq_true, o_fieldAddr, fp61_0, Nat.add_zero, o_store, lkGet, if_true, own_slot, part_sl, ownSz_t, un_slot, st_h, h1, refC, sth_some, Proofs.Try.underlying58, Option.isSome_some, DV.cells, List.length_cons, List.length_nil, Nat.zero_add, cn58, List.all_cons, DV.scalar, List.all_nil, Bool.and_self, Nat.reduceAdd, Nat.reduceLeDiff, putAt_eq, List.take_zero, List.nil_append, List.drop_succ_cons, List.cons_append, mk_setH, Pos.inHp, List.filter_cons, Bool.not_false, o_fn, args_cons, args_nil, mk_H, env_cons, dcl_some, DV.flat, List.map_cons, List.map_nil, true_and, Bool.or_true]
                refine app21o _ (hset (j := 0) hid) ?_
                simp only [List.set_set, hold_app2, mk_called, Pos.isHp, List.filter_nil, mk_put?_some, dropLk, hold_app, tS_nil, ret_none']
                rw [← hc2]
                exact hK
          · have hne : ab.take (max y 0).toNat = [] := by
              rw [List.take_eq_nil_iff]
              by_cases h : (max y 0).toNat = 0
              · exact .inl h
              · exact .inr (List.eq_nil_of_length_eq_zero (by omega))
            have hc2 : rcrashF i (max y 0).toNat acts kept = foldR kept (acts.take i) := by rw [hc]; simp [rtornF, hne]
            cases o
            all_goals
              simp only [w_seq, w_region, mk_clean, tS_cons, g_none, hold_app, o_move, Nat.reduceLT, move_tmp, movK, Nat.reduceBEq, look_miss, look_hit, DV.roA, DV.ro, dropLk, o_bin, nil_tmp, Bool.false_eq_true, rho_tmp, b_lss, e1, decide_false, mk_put?_some, tS_nil, hold_app2, w_cond, cd, w_skip, w_block, lkGet, o_nilCheck, dnil, o_fieldAddr, fp61_2, Nat.zero_add, o_load, ld_h, h1, refC, dlh_some, List.drop_succ_cons, List.drop_zero, la59, lo_sl, addrPos, ia59, if_false, Pos.atSlot, Bool.or_false, o_indexAddr, ix59, e0, List.length_map, e2, DV.cells, Int.toNat_natCast, hat, ld_vptr, la69, List.length_cons, List.length_nil, Nat.reduceAdd, Nat.reduceLeDiff, List.take_succ_cons, List.take_zero, List.map_cons, DV.ro1, List.map_nil, lo_agg, o_fn, args_cons, args_nil, mk_H, env_cons, Nat.reduceEqDiff, if_true, dcl_some, List.all_cons, DV.flat, List.all_nil, Bool.and_self, true_and, false_implies, w_exit, o_len, dl59, decide_true, g_some, gq_succ, gq_zero, gs1_eq, gs2_bool, mk_setT, fv69_0, la3, lo_int, nil_int, rho_const, constDV, b_leq, k2, o_pick, pk, o_alloc, zo69, oc69, DV.scalar, nv69, bgen_eq, bget_nil, bset_nil, o_store, take_tmp, takK, st_b, bget_cons, stb_some, us69, cn69, putAt_eq, List.nil_append, List.drop_nil, List.append_nil, mk_setB, bset_cons, Pos.inBox, List.filter_cons, Bool.not_false, List.filter_nil, fl69_2, ld_b, dlb_some, la9, lo_str, dl9, o_min, m_min, o_max, m_max, hm, o_assign, mk_put, o_slice, Option.map_none, Option.map_some, dsl9, us9, cn9, List.cons_append, b_gtr, k3, fp61_0, Nat.add_zero, st_h, sth_some, Proofs.Try.underlying58, Option.isSome_some, cn58, mk_setH, Pos.inHp, true_implies, db_none, db_some, Bool.true_eq_false, and_true, Bool.not_true, own_slot, part_sl, ownSz_t, un_slot]
              refine ⟨by omega, by omega, ?_⟩
              refine app21o _ (hset (j := 0) hid) ?_
              simp only [List.set_set, hold_app2, List.drop_zero, mk_called, Pos.isHp, List.filter_nil, mk_put?_some, dropLk, hold_app, tS_nil, ret_none']
              rw [← hc2]
              exact hK
        · have hc2 : rcrashF i (max y 0).toNat acts kept = foldR kept (acts.take i) := by rw [hc]; simp [rtornF, k2]
          cases o
          all_goals
            simp only [w_seq, w_region, mk_clean, tS_cons, g_none, hold_app, o_move, Nat.reduceLT, move_tmp, movK, Nat.reduceBEq, look_miss, look_hit, DV.roA, DV.ro, dropLk, o_bin, nil_tmp, Bool.false_eq_true, rho_tmp, b_lss, e1, decide_false, mk_put?_some, tS_nil, hold_app2, w_cond, cd, w_skip, w_block, lkGet, o_nilCheck, dnil, o_fieldAddr, fp61_2, Nat.zero_add, o_load, ld_h, h1, refC, dlh_some, List.drop_succ_cons, List.drop_zero, la59, lo_sl, addrPos, ia59, if_false, Pos.atSlot, Bool.or_false, o_indexAddr, ix59, e0, List.length_map, e2, DV.cells, Int.toNat_natCast, hat, ld_vptr, la69, List.length_cons, List.length_nil, Nat.reduceAdd, Nat.reduceLeDiff, List.take_succ_cons, List.take_zero, List.map_cons, DV.ro1, List.map_nil, lo_agg, o_fn, args_cons, args_nil, mk_H, env_cons, Nat.reduceEqDiff, if_true, dcl_some, List.all_cons, DV.flat, List.all_nil, Bool.and_self, true_and, false_implies, w_exit, o_len, dl59, decide_true, g_some, gq_succ, gq_zero, gs1_eq, gs2_bool, mk_setT, fv69_0, la3, lo_int, nil_int, rho_const, constDV, b_leq, k2, o_pick, pk, o_alloc, nv69, bgen_eq, bget_nil, bset_nil, o_store, take_tmp, takK, st_b, bget_cons, stb_some, us69, cn69, DV.scalar, putAt_eq, List.nil_append, List.cons_append, mk_setB, bset_cons, Pos.inBox, List.filter_cons, Bool.not_false, List.filter_nil, fl69_2, ld_b, dlb_some, la9, lo_str, dl9, o_min, m_min, o_max, m_max, o_assign, mk_put, o_slice, Option.map_some, fp61_0, Nat.add_zero, st_h, sth_some, Proofs.Try.underlying58, Option.isSome_some, cn58, mk_setH, Pos.inHp, true_implies, Bool.not_true, Bool.true_eq_false, and_true, own_slot, part_sl, ownSz_t, un_slot]
            refine app21o _ (hset (j := 0) hid) ?_
            simp only [List.set_set, hold_app2, mk_called, Pos.isHp, List.filter_nil, mk_put?_some, dropLk, hold_app, tS_nil, ret_none']
            rw [← hc2]
            exact hK
      · have e2 : ¬ (i : Int) < acts.length := by omega
        have ei : i = acts.length := by omega
        have hc2 : rcrashF i (max y 0).toNat acts kept = foldR kept (acts.take i) := by rw [ei, rcrash_end, List.take_length]
        cases o
        all_goals
          simp only [w_seq, w_region, mk_clean, tS_cons, g_none, hold_app, o_move, Nat.reduceLT, move_tmp, movK, Nat.reduceBEq, look_miss, look_hit, DV.roA, DV.ro, dropLk, o_bin, nil_tmp, Bool.false_eq_true, rho_tmp, b_lss, e1, decide_false, mk_put?_some, tS_nil, hold_app2, w_cond, cd, w_skip, w_block, lkGet, o_nilCheck, dnil, o_fieldAddr, fp61_2, Nat.zero_add, o_load, ld_h, h1, refC, dlh_some, List.drop_succ_cons, List.drop_zero, la59, lo_sl, addrPos, ia59, if_false, Pos.atSlot, Bool.or_false, o_indexAddr, ix59, List.length_map, e2, DV.cells, Int.toNat_natCast, ld_vptr, la69, lo_agg, o_fn, args_cons, args_nil, mk_H, env_cons, Nat.reduceEqDiff, if_true, dcl_some, List.all_cons, DV.flat, List.all_nil, Bool.and_self, List.map_cons, List.map_nil, true_and, false_implies, w_exit, o_len, dl59, g_some, gq_succ, gq_zero, gs1_eq, gs2_bool, mk_setT, fv69_0, true_implies, Bool.not_true, Bool.true_eq_false, nil_int, rho_const, constDV, o_pick, pk, o_alloc, nv69, bgen_eq, bget_nil, bset_nil, o_store, take_tmp, takK, st_b, bget_cons, stb_some, us69, cn69, putAt_eq, List.take_zero, List.nil_append, mk_setB, bset_cons, Pos.inBox, List.filter_cons, Bool.not_false, List.filter_nil, fl69_2, ld_b, dlb_some, fp61_0, Nat.add_zero, st_h, sth_some, Proofs.Try.underlying58, Option.isSome_some, List.length_cons, List.length_nil, cn58, DV.scalar, Nat.reduceAdd, Nat.reduceLeDiff, List.cons_append, mk_setH, Pos.inHp, and_true, own_slot, part_sl, ownSz_t, un_slot]
          refine app21o _ (hset (j := 0) hid) ?_
          simp only [List.set_set, hold_app2, mk_called, Pos.isHp, List.filter_nil, mk_put?_some, dropLk, hold_app, tS_nil, ret_none']
          rw [← hc2]
          exact hK
end Go.Ab.Sh
