/- A part of the proofs that a law function returns true at every input; it has no condition of its own. -/
import Derived.Test.YtcljbddnnnbihaaShN0
set_option linter.unusedSimpArgs false
set_option linter.unusedVariables false
/- ShM6: ShelfFull. -/
namespace Go.Ab.Sh
open Go Go.Conc Go.RowKit Go.Ab
set_option maxRecDepth 10000
def msl : DV → DV → (List DV → Prop) → Prop
  | .int _ n, .int _ m, F => n = m ∧ 0 ≤ n ∧ n ≤ 65536 ∧ F (List.replicate n.toNat (.int .u8 0))
  | _, _, _ => False
theorem msl_int {k1 k2 : IntKind} {n : Int} {F : List DV → Prop} : msl (.int k1 n) (.int k2 n) F = (0 ≤ n ∧ n ≤ 65536 ∧ F (List.replicate n.toNat (.int .u8 0))) := by simp [msl]
theorem info5 : (pp.info? 5).map (fun i => (i.zero, i.size, i.bytes)) = some (some (.int .u8 0), 1, 1) := by kernel_rfl
section
variable {isObj : ObjT} {Γ : Env} {K : St → Prop} {st : St} {s : Nat} {l c x y : Operand} {t : TypeId} {p : String} {af : Array Edge} {g : Option (Nat × Bool)}
theorem ms48 : dopC pp isObj Γ (hold ⟨some s, .makeSlice 48 l c, t, p, af, g⟩ (tag _)) st K = msl (rho pp st 3 l) (rho pp st 3 c) (hold (fun xs => K (st.put s (.sl true 1 xs))) (tag _)) := by
  simp only [dopC, dop, hold, Go.Proofs.Try.underlying48]
  cases rho pp st 3 l <;> cases rho pp st 3 c <;> simp [msl, info5]
def bs2 (a b : DV) (F : List DV → Prop) : Prop := (a.cells.length = 1 ∧ a.cells.all DV.scalar = true) ∧ (b.cells.length = 1 ∧ b.cells.all DV.scalar = true) ∧ F [a, b]
theorem bs2_int {k1 k2 : IntKind} {n m : Int} {F : List DV → Prop} : bs2 (.int k1 n) (.int k2 m) F = F [.int k1 n, .int k2 m] := by simp [bs2, DV.cells, DV.scalar]
theorem bs48 : dopC pp isObj Γ (hold ⟨some s, .buildSlice 48 2 #[(0, x), (1, y)], t, p, af, g⟩ (tag _)) st K = bs2 (rho pp st 5 x).ro (rho pp st 5 y).ro (hold (fun xs => K (st.put s (.sl true 1 xs))) (tag _)) := by
  have h := o_buildSlice (P := pp) (isObj := isObj) (Γ := Γ) (K := K) (st := st) (s := s) (t := t) (p := p) (af := af) (g := g) (len := 2) (parts := [(0, x), (1, y)]) Go.Proofs.Try.underlying48
  refine Eq.trans h ?_
  have h1 : pp.cellsOf 5 = 1 := cn5
  have h2 : (pp.underlying 5).isSome = true := us5
  have h3 : (pp.info? 5).any (·.zero.isSome) = true := zi5
  simp only [h1, h2, h3, bs2, hold]
  apply propext
  constructor
  · rintro ⟨_, _, _, _, _, h, hk⟩
    exact ⟨h (0, x) (by simp), h (1, y) (by simp), hk⟩
  · rintro ⟨a, b, hk⟩
    refine ⟨trivial, by decide, by decide, trivial, rfl, fun z hz => ?_, hk⟩
    rcases List.mem_cons.1 hz with rfl | hz
    · exact a
    · rcases List.mem_cons.1 hz with rfl | hz
      · exact b
      · cases hz
end
def cvB : Option Str → (Str → Prop) → Prop
  | some l, F => F l
  | none, _ => False
theorem cvB_some {l : Str} {F : Str → Prop} : cvB (some l) F = F l := _root_.id rfl
theorem cv489 {st : St} {own : Bool} {xs : List DV} {K : DV → Prop} : dconv pp st 48 9 (.sl own 1 xs) K = cvB (bytesOf xs) fun l => K (.str l) := by
  simp only [dconv, Go.Proofs.Try.underlying48, Go.Proofs.Try.underlying9, Go.Proofs.Try.underlying5]
  cases bytesOf xs <;> simp [cvB]
theorem bytes_zero : ∀ n : Nat, bytesOf (List.replicate n (.int .u8 0)) = some (List.replicate n 0)
  | 0 => rfl
  | n + 1 => by
    rw [List.replicate_succ, bytesOf, bytes_zero n]
    rfl
theorem bytes_two {a b : Nat} : bytesOf [.int .u8 (a : Int), .int .u8 (b : Int)] = some [UInt8.ofNat a, UInt8.ofNat b] := by simp [bytesOf]
theorem cv35 {st : St} {k : IntKind} {n : Int} {K : DV → Prop} : dconv pp st 3 5 (.int k n) K = K (.int .u8 (IntKind.u8.wrap n)) := by simp [dconv, Go.Proofs.Try.underlying5, Go.Proofs.Try.underlying3]
theorem b_quo {xt : TypeId} {k : IntKind} {a b : Int} {K : DV → Prop} : dbin pp .quo xt (.int k a) (.int k b) K = (b ≠ 0 ∧ K (.int k (k.wrap (a.tdiv b)))) := by simp [dbin]
def nmT (i : Nat) : Str := [102, UInt8.ofNat (97 + i / 26), UInt8.ofNat (97 + i % 26)]
def nowT (j : Nat) : Files := (List.range j).map fun x => (nmT x, [])
theorem nmT_ok : ∀ i, i < 61 → namedF (nmT i) = true ∧ getF (nowT (min i 60)) (nmT i) = none := by decide +kernel
theorem nowT_step : ∀ i, i < 60 → setF (nmT i) [] (nowT i) = nowT (i + 1) := by decide +kernel
theorem nowT_kn : ((nowT 59).map (·.1)).Nodup ∧ ((nowT 60).map (·.1)).Nodup := by decide +kernel
theorem nowT_used : ∀ j, j < 61 → usedF (nowT j) = 0 := by decide +kernel
theorem nowT_len (j : Nat) : (nowT j).length = j := by simp [nowT]
theorem nowT_short (j : Nat) : ∀ x ∈ nowT j, x.1.length ≤ maxLen := by
  intro x hx
  obtain ⟨i, _, rfl⟩ := List.mem_map.1 hx
  show 3 ≤ maxLen
  unfold maxLen
  omega
theorem putT (i : Nat) (hi : i < 61) : putC (nowT (min i 60)) 10 (nmT i) [] = if i < 60 then 0 else 15 := by
  obtain ⟨h1, h2⟩ := nmT_ok i hi
  have h3 := nowT_used (min i 60) (by omega)
  simp only [putC, h1, h2, h3, nowT_len, Option.isSome_none, Bool.false_eq_true, if_false, List.length_nil]
  simp
  split
  · rw [if_neg (by omega)]
  · rw [if_pos (by omega)]
theorem wrap_u8 {x : Int} (h1 : 0 ≤ x) (h2 : x < 256) : IntKind.u8.wrap x = x := by
  simp [IntKind.wrap, IntKind.bits, IntKind.signed]
  omega
noncomputable def b5 : Code := (Go.Proofs.Try.f5.body).getD .skip
theorem hb5 : Go.Proofs.Try.f5.body = some b5 := by kernel_rfl
def M6 (kk : Nat) (m : Nat) (st : St) : Prop := ∃ (i : Nat) (H : List HObj) (id k n : Nat) (acts : List Act), i ≤ kk ∧ m = kk - i ∧ ShelfAt H id k n [] (nowT (min i 60)) acts 10 ∧ acts.length ≤ i ∧ st = mk 115 [(11, .ptr id 0), (12, .int .i64 kk), (13, .int .i64 i)] [] H []
set_option maxHeartbeats 4000000 in
theorem law5 {N0 : Nat} {w0 : World} {d : Nat} {G : Gh} {w : World} {H : List HObj} {vs : Array Value} (r n q : Int) (h0 : 0 ≤ r) (h1 : r < 256) (h2 : 0 ≤ n) (h3 : n < 256) (h4 : 0 ≤ q) (h5 : q < 256) (hW : WRel N0 w0 G w H) (hF : Fits G w [.int .u8 r, .int .u8 n, .int .u8 q] vs) :
    Calls pp 5 vs w fun e w' => ∃ v, e = .returned v ∧ Back N0 w0 d G w KT v w' := by
  refine calls_of_code (isObj := isO) (Γ := envOf [(8, S8), (10, S10), (12, S12), (14, S14), (31, S31), (32, S32)]) (rs := [6]) mixed (envOf_rc (by simpa using ⟨rc8, rcs10, rcs12, rcs14, rc31, rcs32⟩)) Go.Proofs.Try.func5 hb5 Go.Proofs.Try.results5 Go.Proofs.Try.ntmps5 (by decide) (args := [.int .u8 r, .int .u8 n, .int .u8 q]) (by simp) rfl ?_ hW hF
  unfold b5 Go.Proofs.Try.f5
  have wr : IntKind.i64.wrap r = r := wrap_i64 (by omega) (by omega)
  have wn : IntKind.i64.wrap n = n := wrap_i64 (by omega) (by omega)
  have w2n : IntKind.i64.wrap (2 * n) = 2 * n := wrap_i64 (by omega) (by omega)
  obtain ⟨kk, hkk, hk1, hk2⟩ : ∃ kk : Nat, IntKind.i64.wrap (59 + IntKind.i64.wrap (q.tmod 3)) = (kk : Int) ∧ 59 ≤ kk ∧ kk ≤ 61 := by
    have h6 : 0 ≤ q.tmod 3 ∧ q.tmod 3 < 3 := by rw [Int.tmod_eq_emod_of_nonneg h4]; omega
    refine ⟨(59 + q.tmod 3).toNat, ?_, by omega, by omega⟩
    rw [wrap_i64 (x := q.tmod 3) (by omega) (by omega), wrap_i64 (by omega) (by omega)]
    omega
  have hzl : (List.replicate n.toNat 0 : Str).length = n.toNat := List.length_replicate
  simp only [List.append_eq, List.cons_append, List.nil_append, Option.getD_some, argSlots, DV.ro, Nat.zero_add, Nat.reduceAdd, w_seq, w_region, mk_clean, tS_cons, g_none, hold_app, o_assign, take_const, constDV, mk_put, dropLk, tS_nil, hold_app2, o_fn, args_nil, mk_H, env_cons, Nat.reduceEqDiff, if_false, if_true, dcl_some, List.all_nil, List.map_nil, true_and]
  refine ⟨rfl, fun H0 f0 => ?_⟩
  simp only [hold_app2, mk_called, Pos.isHp, List.filter_nil, mk_put?_some, dropLk, hold_app, tS_cons, g_none, o_un, Nat.reduceLT, rho_tmp, look_hit, u_not, Bool.not_true, tS_nil, w_cond, cd_f, w_skip, w_seq, w_region, mk_clean, o_move, move_tmp, movK, Nat.reduceBEq, look_miss, DV.roA, DV.ro, o_conv, cv53, wn, ms48, msl_int, mk_put, o_assign, take_tmp, takK, wr, o_fn, args_cons, args_nil, mk_H, env_cons, Nat.reduceEqDiff, if_false, if_true, dcl_some, List.all_cons, DV.flat, List.all_nil, Bool.and_self, List.map_cons, List.map_nil, true_and]
  refine ⟨by omega, by omega, ?_⟩
  try simp only [w_skip, w_label, w_ret, w_exit, w_seq, w_cond, w_block, w_scope, w_region, mk_clean, tS_cons, tS_nil, g_none, g_some, gq_zero, gq_succ, gs1_eq, gs2_tup, o_move, o_assign, o_pick, o_alloc, o_box, o_load, o_store, o_nilCheck, o_bin, o_un, o_conv, o_makeMap, o_slice, o_fieldAddr, o_field, o_indexAddr, o_index, o_lookup, o_mapUpdate, o_extract, o_len, o_max, o_min, o_append, o_delete,
    hold_app, hold_app2, move_tmp, move_const, take_tmp, take_const, rho_tmp, rho_const, constDV, mk_put, mk_put?_some, mk_put?_none, mk_setT, mk_newMap, mk_forget, argSlots, DV.ro, DV.roA, DV.ro1, dropLk, look_hit, look_miss, movK, takK, extK, ext_tmp, dnil, pk, ex_0, ex_1, ex_2, lo_int, lo_str, lo_bool, lo_map, lo_ptr, lo_agg, lo_sl, addrPos, lkGet, ld_vptr,
    ld_h, dlh_some, ld_b, dlb_some, st_h, sth_some, st_b, stb_some, onMap_some, bget_nil, bget_cons, bset_nil, bset_cons, bgen_eq, putAt_eq, List.take_succ_cons, List.take_zero, List.nil_append, List.cons_append, List.append_nil, List.drop_nil, mk_setH, mk_setB, List.filter_nil, Nat.reduceLeDiff,
    nil_tmp, nil_int, nil_str, nil_bool, nil_ptr, nil_map, nil_sl, n_eql Go.Proofs.Try.underlying55, n_neq Go.Proofs.Try.underlying55,
    b_add, b_sub, b_mul, b_eql, b_neq, b_lss, b_leq, b_gtr, b_geq, s_eql, s_neq, s_lss, s_add, u_not, m_max, m_min, plain_str, plain_int, DV.cells, DV.scalar, DV.flat,
    Nat.reduceLT, Nat.reduceAdd, Nat.reduceBEq, Nat.reduceEqDiff, List.drop_succ_cons, List.drop_zero, Nat.zero_add, Nat.add_zero, List.getElem?_cons_zero, List.getElem?_cons_succ, Option.getD_some, if_true, if_false, Option.isSome_some, eq_self, reduceCtorEq, reduceIte, Bool.true_eq_false, Bool.false_eq_true, false_implies, true_implies, and_true, true_and, ne_eq, not_false_eq_true, not_true_eq_false, List.all_cons, List.all_nil, Bool.and_self, Bool.not_true, Bool.not_false, List.map_cons, List.map_nil, List.length_cons, List.length_nil,
    lk_h Go.Proofs.Try.underlying54, mu_h Go.Proofs.Try.underlying54, md_h Go.Proofs.Try.underlying54, find_enc, set_enc, del_enc, all_enc, DV.plain, nv65, nv69, nv75, no57, no61,
    o_fn, dcl_some, env_cons, args_nil, args_cons, mk_called, mk_H, filter_isHp_nil, rp_done, rp_quiet, rpQ_succ, rpQ_zero, rp_acts, ra_nil, ra_cons, rpA_succ, rpA_zero, rcA_nil, rcA_cons, rcW_succ, rcW_zero, slL_nil, slL_cons, slW_succ, slW_zero, mk_unlink, dropLks, Pos.atSlot, Pos.isHp, Pos.inHp, Pos.inBox, Bool.or_false, Bool.false_or, Bool.or_true, Bool.true_or, List.filter_cons, ex_eq, ex_and, mk_t,
    q_move, q_assign, q_pick, q_load, q_nilCheck, q_bin, q_un, q_conv, q_fieldAddr, q_field, q_indexAddr, q_index, q_lookup, q_extract, q_len, q_max, q_min,
    Go.Proofs.Try.underlying55, Go.Proofs.Try.underlying58, Go.Proofs.Try.underlying59, Go.Proofs.Try.underlying45, apd_own, own_hp, ohp_some, ownSz_t, ownSz_f, own_slot, part_sl, part_tup0, un_hp, unh_some, un_slot, listRo_eq, List.set_cons_zero, List.set_cons_succ, List.getD_cons_zero, List.getD_cons_succ, List.getElem?_set_self', List.set_set, Function.const_apply, Option.map_some, Option.map_eq_map, bz55, bs55, bs58, bs59, ap55, ap58, ap59,
    bdk_eq, bd_nil, bqk, bq_nil, List.append_assoc,
    ret_none, ret_none', ret_one, ret_one', ret_two,
    fp57_0, fl57_0, fv57_0, fp57_1, fl57_1, fv57_1, fp57_2, fl57_2, fv57_2, fp57_3, fl57_3, fv57_3, fp61_0, fl61_0, fv61_0, fp61_1, fl61_1, fv61_1, fp61_2, fl61_2, fv61_2, fp61_3, fl61_3, fv61_3, fp65_0, fl65_0, fv65_0, fp65_1, fl65_1, fv65_1, fp65_2, fl65_2, fv65_2, fp69_0, fl69_0, fv69_0, fp69_1, fl69_1, fv69_1, fp69_2, fl69_2, fv69_2, fp75_0, fl75_0, fv75_0, fp75_1, fl75_1, fv75_1, fp31_0, fl31_0, fv31_0, fp31_1, fl31_1, fv31_1, fp31_2, fl31_2, fv31_2, fp31_3, fl31_3, fv31_3, fp31_4, fl31_4, fv31_4, fp31_5, fl31_5, fv31_5, dl9, ix9, dl22, ix22, dl45, ix45, dl48, ix48, dl55, ix55, dl58, ix58, dl59, ix59, la2, la3, la4, la5, la9, la25, la27, la29, la45, la54, la55, la58, la59, la22, la48, la57, la61, la65, la69, la75, la31, lf9, lf9', kt9, ia2, cn2, us2, ia3, cn3, us3, ia4, cn4, us4, ia5, cn5, us5, ia9, cn9, us9, ia22, cn22, us22, ia25, cn25, us25, ia27, cn27, us27, ia29, cn29, us29, ia45, cn45, us45, ia48, cn48, us48, ia54, cn54, us54, ia55, cn55, us55, ia57, cn57, us57, ia58, cn58, us58, ia59, cn59, us59, ia61, cn61, us61, ia65, cn65, us65, ia69, cn69, us69, ia75, cn75, us75, ia31, cn31, us31, dl54h, enc_length, bd57, bq57, bd57_0, bq57_0, bd57_1, bq57_1, bd57_2, bq57_2, bd57_3, bq57_3, bd61, bq61, bd61_0, bq61_0, bd61_1, bq61_1, bd61_2, bq61_2, bd61_3, bq61_3, bd65, bq65, bd65_0, bq65_0, bd65_1, bq65_1, bd65_2, bq65_2, bd69, bq69, bd69_0, bq69_0, bd69_1, bq69_1, bd69_2, bq69_2, bd75, bq75, bd75_0, bq75_0, bd75_1, bq75_1, tA_cons, tA_nil, qA_zero, qA_succ, qA_nil, p_eql Go.Proofs.Try.underlying25, List.append_eq, gs2_tt, gs2_ft, gs2_tf, gs2_ff, cd_t, cd_f, decide_true, decide_false, Int.reduceEq, Int.reduceLE, Int.reduceLT, nc0, nc1, nc2, namesF_lenD, cv53, b_rem, t_eql Go.Proofs.Try.underlying4, t_neq Go.Proofs.Try.underlying4, beq_self_eq_true, bne_self_eq_false, ms48, msl_int, bs48, bs2_int, cv489, bytes_zero, bytes_two, cvB_some, cv35, b_quo, wr, wn, w2n, hkk, Int.toNat_natCast]
  refine capp10 fun H1 f1 g1 s1 => ?_
  have hrm : min (max r 0) 1000000 = r := by omega
  rw [hrm] at s1
  simp only [hold_app2, mk_called, Pos.isHp, List.filter_nil, mk_put?_some, dropLk, hold_app, tS_cons, g_none, o_assign, Nat.reduceLT, take_tmp, takK, look_hit, DV.roA, DV.ro, mk_put, tS_nil, w_seq, w_region, mk_clean, o_move, move_tmp, movK, Nat.reduceBEq, look_miss, Nat.reduceEqDiff, if_false, o_conv, rho_tmp, cv489, bytes_zero, Pos.atSlot, Bool.or_false, Bool.false_eq_true, o_fn, args_cons, rho_const, constDV, args_nil, mk_H, env_cons, if_true, dcl_some, List.all_cons, DV.flat, List.all_nil, Bool.and_self, List.map_cons, List.map_nil, true_and, cvB_some]
  by_cases hnr : n ≤ r
  · refine capp12 0 s1 (by decide) h0 (by omega) (by simp) (by decide) (by omega) (putC_ok (by decide) rfl (by simp) (by simp [usedF]; omega)) fun H2 f2 s2 => ?_
    replace s2 : ShelfAt H2 (H0.length + 2) H0.length (H0.length + 1) [] [([97], List.replicate n.toNat 0)] [⟨1, [97], List.replicate n.toNat 0⟩] r := s2
    have hu2 : usedF [(([97] : Str), (List.replicate n.toNat 0 : Str))] = n.toNat := by simp [usedF]
    have ha : addC [([97], List.replicate n.toNat 0)] r [97] (List.replicate n.toNat 0) = if max (r - n.toNat) 0 < n.toNat then 15 else 0 := by simp [addC, getF, usedF]
    simp only [hold_app2, mk_called, Pos.isHp, List.filter_cons, Bool.not_false, List.filter_nil, if_true, mk_put?_some, dropLk, Nat.reduceBEq, Pos.atSlot, Bool.or_false, Bool.false_eq_true, if_false, hold_app, tS_cons, g_none, o_assign, Nat.reduceLT, take_tmp, takK, look_hit, DV.roA, DV.ro, mk_put, tS_nil, w_seq, w_region, mk_clean, o_move, move_tmp, movK, o_bin, nil_int, rho_tmp, rho_const, constDV, b_eql, decide_true, look_miss, nil_tmp, b_leq, hnr, t_neq Go.Proofs.Try.underlying4, bne_self_eq_false, g_some, gq_succ, gq_zero, gs1_eq, gs2_ff, mk_setT, b_neq, ne_eq, not_true_eq_false, decide_false, gs2_ft, gs2_tup, o_pick, pk, List.map_nil, w_cond, cd_f, w_skip, cd_t, Nat.reduceEqDiff, o_conv, cv489, bytes_zero, o_fn, args_cons, args_nil, mk_H, env_cons, dcl_some, List.all_cons, DV.flat, List.all_nil, Bool.and_self, List.map_cons, true_and, cvB_some]
    by_cases h2n : 2 * n ≤ r
    · rw [if_neg (by omega)] at ha
      refine capp14 0 s2 (by omega) h0 (by omega) (by simp) (by omega) ha fun H3 f3 s3 => ?_
      simp only [hold_app2, mk_called, Pos.isHp, List.filter_cons, Bool.not_false, List.filter_nil, if_true, mk_put?_some, dropLk, Nat.reduceBEq, Pos.atSlot, Bool.or_false, Bool.false_eq_true, if_false, hold_app, tS_cons, g_none, o_assign, Nat.reduceLT, take_tmp, takK, look_hit, DV.roA, DV.ro, mk_put, tS_nil, w_seq, w_region, mk_clean, o_move, move_tmp, movK, o_bin, nil_int, rho_tmp, rho_const, constDV, b_eql, decide_true, look_miss, o_conv, cv53, wn, nil_tmp, b_mul, w2n, wr, b_leq, h2n, t_neq Go.Proofs.Try.underlying4, bne_self_eq_false, g_some, gq_succ, gq_zero, gs1_eq, gs2_ff, mk_setT, b_neq, ne_eq, not_true_eq_false, decide_false, gs2_ft, o_pick, pk, List.map_nil, w_cond, cd_f, w_skip, o_fn, args_cons, args_nil, mk_H, env_cons, Nat.reduceEqDiff, dcl_some, List.all_cons, DV.flat, List.all_nil, Bool.and_self, List.map_cons, true_and]
      refine capp10 fun H5 f5 g5 t5 => ?_
      simp only [hold_app2, mk_called, Pos.isHp, List.filter_nil, mk_put?_some, dropLk, hold_app, tS_cons, g_none, o_assign, Nat.reduceLT, take_tmp, takK, look_hit, DV.roA, DV.ro, mk_put, tS_nil, w_seq, w_region, mk_clean, o_move, move_tmp, movK, Nat.reduceBEq, look_miss, o_bin, nil_int, Bool.false_eq_true, rho_tmp, rho_const, constDV, b_rem, ne_eq, Int.reduceEq, not_false_eq_true, o_conv, cv53, nil_tmp, b_add, hkk, take_const, w_block, if_false, true_and]
      refine w_loop [11, 12, 13] (M6 kk) kk ?_ ?_
      · exact ⟨0, H5, _, _, _, [], by omega, by omega, t5, by simp, by simp only [mk_forget, List.map_cons, Nat.reduceBEq, look_miss, look_hit, List.map_nil, nc0]; try rfl⟩
      · rintro m st ⟨i, H6, id, k, n', acts, hi, rfl, hs, hal, rfl⟩
        by_cases e : i < kk
        · have e1 : (i : Int) < kk := by omega
          have hq1 : IntKind.i64.wrap ((i : Int).tdiv 26) = ((i / 26 : Nat) : Int) := by
            rw [show (i : Int).tdiv 26 = ((i / 26 : Nat) : Int) from rfl, wrap_i64 (by omega) (by omega)]
          have hq2 : (i : Int).tmod 26 = ((i % 26 : Nat) : Int) := rfl
          have ha1 : IntKind.i64.wrap (97 + ((i / 26 : Nat) : Int)) = ((97 + i / 26 : Nat) : Int) := by rw [wrap_i64 (by omega) (by omega)]; omega
          have ha2 : IntKind.i64.wrap (97 + ((i % 26 : Nat) : Int)) = ((97 + i % 26 : Nat) : Int) := by rw [wrap_i64 (by omega) (by omega)]; omega
          have hb1 : IntKind.u8.wrap ((97 + i / 26 : Nat) : Int) = ((97 + i / 26 : Nat) : Int) := wrap_u8 (by omega) (by omega)
          have hb2 : IntKind.u8.wrap ((97 + i % 26 : Nat) : Int) = ((97 + i % 26 : Nat) : Int) := wrap_u8 (by omega) (by omega)
          have wi : IntKind.i64.wrap ((i : Int) + 1) = ((i + 1 : Nat) : Int) := by rw [wrap_i64 (by omega) (by omega)]; omega
          have hp := putT i (by omega)
          have hu := nowT_used (min i 60) (by omega)
          simp only [w_seq, w_region, mk_clean, tS_cons, g_none, hold_app, o_move, Nat.reduceLT, move_tmp, movK, Nat.reduceBEq, look_miss, look_hit, DV.roA, DV.ro, dropLk, o_bin, nil_tmp, Bool.false_eq_true, rho_tmp, b_lss, e1, decide_true, mk_put?_some, tS_nil, hold_app2, w_cond, cd_t, w_skip, w_block, nil_int, rho_const, constDV, b_quo, ne_eq, Int.reduceEq, not_false_eq_true, hq1, b_add, ha1, o_conv, cv35, hb1, b_rem, hq2, ha2, hb2, bs48, bs2_int, mk_put, cv489, bytes_two, s_add, List.length_cons, List.length_nil, Nat.zero_add, List.cons_append, List.nil_append, o_fn, args_cons, args_nil, mk_H, env_cons, Nat.reduceEqDiff, if_false, if_true, dcl_some, List.all_cons, DV.flat, List.all_nil, Bool.and_self, List.map_cons, List.map_nil, true_and, cvB_some, Nat.reduceAdd, Nat.reduceLeDiff]
          have hnm : (1 : Nat) + 2 ≤ 9223372036854775807 := by decide
          try refine ⟨hnm, ?_⟩
          by_cases c : i < 60
          · have c1 : (i : Int) < 60 := by omega
            rw [if_pos c] at hp
            refine capp12 0 hs (by omega) (by decide) (by decide) (by omega) (by simp) (by simp) hp fun H7 f7 s7 => ?_
            have s8 : ShelfAt H7 id k n' [] (nowT (min (i + 1) 60)) (acts ++ [⟨1, nmT i, []⟩]) 10 := by
              have e5 : min i 60 = i := by omega
              have e6 : min (i + 1) 60 = i + 1 := by omega
              rw [e6, ← nowT_step i c]
              rw [e5] at s7
              exact s7
            simp only [hold_app2, mk_called, Pos.isHp, List.filter_nil, mk_put?_some, dropLk, hold_app, tS_cons, g_none, o_assign, Nat.reduceLT, take_tmp, takK, look_hit, DV.roA, DV.ro, mk_put, tS_nil, w_seq, w_region, mk_clean, o_move, move_tmp, movK, o_bin, nil_int, Bool.false_eq_true, rho_tmp, rho_const, constDV, b_eql, decide_true, Nat.reduceBEq, look_miss, b_lss, c1, nil_tmp, t_neq Go.Proofs.Try.underlying4, bne_self_eq_false, g_some, gq_succ, gq_zero, gs1_eq, gs2_ff, mk_setT, b_neq, ne_eq, not_true_eq_false, decide_false, gs2_ft, o_pick, pk, List.map_nil, if_false, w_cond, cd_f, w_skip, b_add, wi, mk_forget, List.map_cons]
            exact ⟨kk - (i + 1), by omega, i + 1, H7, id, k, n', _, by omega, rfl, s8, by simp; omega, rfl⟩
          · have c1 : ¬ (i : Int) < 60 := by omega
            rw [if_neg c] at hp
            refine capp12 15 hs (by omega) (by decide) (by decide) (by omega) (by simp) (by simp) hp fun H7 f7 s7 => ?_
            have s8 : ShelfAt H7 id k n' [] (nowT (min (i + 1) 60)) acts 10 := by
              have e5 : min i 60 = 60 := by omega
              have e6 : min (i + 1) 60 = 60 := by omega
              rw [e6]
              rw [e5] at s7
              exact s7
            simp only [hold_app2, mk_called, Pos.isHp, List.filter_nil, mk_put?_some, dropLk, hold_app, tS_cons, g_none, o_assign, Nat.reduceLT, take_tmp, takK, look_hit, DV.roA, DV.ro, mk_put, tS_nil, w_seq, w_region, mk_clean, o_move, move_tmp, movK, o_bin, nil_int, Bool.false_eq_true, rho_tmp, rho_const, constDV, b_eql, Int.reduceEq, decide_false, Nat.reduceBEq, look_miss, b_lss, c1, nil_tmp, t_neq Go.Proofs.Try.underlying4, bne_self_eq_false, g_some, gq_succ, gq_zero, gs1_eq, gs2_ff, mk_setT, b_neq, ne_eq, not_false_eq_true, decide_true, gs2_tt, not_true_eq_false, o_pick, pk, if_true, if_false, w_cond, cd_f, w_skip, b_add, wi, mk_forget, List.map_cons, List.map_nil]
            exact ⟨kk - (i + 1), by omega, i + 1, H7, id, k, n', acts, by omega, rfl, s8, by omega, rfl⟩
        · have e1 : ¬ (i : Int) < kk := by omega
          obtain rfl : i = kk := by omega
          have hmk : (if 60 < (i : Int) then 60 else (i : Int)) = ((min i 60 : Nat) : Int) := by split <;> omega
          have hnd : ((nowT (min i 60)).map (·.1)).Nodup := by
            have : min i 60 = 59 ∨ min i 60 = 60 := by omega
            rcases this with h | h <;> rw [h]
            · exact nowT_kn.1
            · exact nowT_kn.2
          simp only [w_seq, w_region, mk_clean, tS_cons, g_none, hold_app, o_move, Nat.reduceLT, move_tmp, movK, Nat.reduceBEq, look_miss, look_hit, DV.roA, DV.ro, dropLk, o_bin, nil_tmp, Bool.false_eq_true, rho_tmp, b_lss, e1, decide_false, mk_put?_some, tS_nil, hold_app2, w_cond, cd_f, w_exit, o_fn, args_cons, args_nil, mk_H, env_cons, Nat.reduceEqDiff, if_false, if_true, dcl_some, List.all_cons, DV.flat, List.all_nil, Bool.and_self, List.map_cons, List.map_nil, true_and]
          refine app31 hs hnd (by rw [nowT_len]; omega) (nowT_short _) ?_
          simp only [hold_app2, mk_called, Pos.isHp, List.filter_nil, mk_put?_some, dropLk, hold_app, tS_cons, g_none, o_len, Nat.reduceLT, rho_tmp, look_hit, dl45, namesF_lenD, nowT_len, o_move, move_tmp, movK, Nat.reduceBEq, look_miss, DV.roA, DV.ro, o_min, rho_const, constDV, m_min, hmk, o_bin, nil_tmp, Bool.false_eq_true, b_eql, decide_true, o_assign, take_tmp, takK, mk_put, tS_nil, w_ret, ret_one, DV.flat, true_and, if_false]
          rfl
    · rw [if_pos (by omega)] at ha
      refine capp14 15 s2 (by omega) h0 (by omega) (by simp) (by omega) ha fun H3 f3 s3 => ?_
      replace s3 : ShelfAt H3 (H0.length + 2) H0.length (H0.length + 1) [] [([97], List.replicate n.toNat 0)] [⟨1, [97], List.replicate n.toNat 0⟩] r := s3
      simp only [hold_app2, mk_called, Pos.isHp, List.filter_cons, Bool.not_false, List.filter_nil, if_true, mk_put?_some, dropLk, Nat.reduceBEq, Pos.atSlot, Bool.or_false, Bool.false_eq_true, if_false, hold_app, tS_cons, g_none, o_assign, Nat.reduceLT, take_tmp, takK, look_hit, DV.roA, DV.ro, mk_put, tS_nil, w_seq, w_region, mk_clean, o_move, move_tmp, movK, o_bin, nil_int, rho_tmp, rho_const, constDV, b_eql, Int.reduceEq, decide_false, look_miss, o_conv, cv53, wn, nil_tmp, b_mul, w2n, wr, b_leq, h2n, t_neq Go.Proofs.Try.underlying4, bne_self_eq_false, g_some, gq_succ, gq_zero, gs1_eq, gs2_ff, mk_setT, b_neq, ne_eq, not_false_eq_true, decide_true, gs2_tt, o_fn, args_cons, args_nil, mk_H, env_cons, Nat.reduceEqDiff, dcl_some, List.all_cons, DV.flat, List.all_nil, Bool.and_self, List.map_cons, List.map_nil, true_and]
      refine capp32v n s3 (by omega) (by omega) ?_
      simp only [hold_app2, mk_called, Pos.isHp, List.filter_nil, mk_put?_some, dropLk, hold_app, tS_cons, g_some, gq_succ, gq_zero, Nat.reduceLT, gs1_eq, Nat.reduceBEq, look_miss, look_hit, gs2_tt, mk_setT, o_move, move_tmp, movK, DV.roA, DV.ro, o_conv, rho_tmp, cv53, wn, o_bin, nil_tmp, Bool.false_eq_true, b_neq, ne_eq, not_true_eq_false, decide_false, gs2_ff, o_pick, rho_const, constDV, pk, if_true, g_none, if_false, tS_nil, w_cond, cd_f, w_skip, w_seq, w_region, mk_clean, o_fn, args_cons, args_nil, mk_H, env_cons, Nat.reduceEqDiff, dcl_some, List.all_cons, DV.flat, List.all_nil, Bool.and_self, List.map_cons, List.map_nil, true_and]
      refine capp10 fun H5 f5 g5 t5 => ?_
      simp only [hold_app2, mk_called, Pos.isHp, List.filter_nil, mk_put?_some, dropLk, hold_app, tS_cons, g_none, o_assign, Nat.reduceLT, take_tmp, takK, look_hit, DV.roA, DV.ro, mk_put, tS_nil, w_seq, w_region, mk_clean, o_move, move_tmp, movK, Nat.reduceBEq, look_miss, o_bin, nil_int, Bool.false_eq_true, rho_tmp, rho_const, constDV, b_rem, ne_eq, Int.reduceEq, not_false_eq_true, o_conv, cv53, nil_tmp, b_add, hkk, take_const, w_block, if_false, true_and]
      refine w_loop [11, 12, 13] (M6 kk) kk ?_ ?_
      · exact ⟨0, H5, _, _, _, [], by omega, by omega, t5, by simp, by simp only [mk_forget, List.map_cons, Nat.reduceBEq, look_miss, look_hit, List.map_nil, nc0]; try rfl⟩
      · rintro m st ⟨i, H6, id, k, n', acts, hi, rfl, hs, hal, rfl⟩
        by_cases e : i < kk
        · have e1 : (i : Int) < kk := by omega
          have hq1 : IntKind.i64.wrap ((i : Int).tdiv 26) = ((i / 26 : Nat) : Int) := by
            rw [show (i : Int).tdiv 26 = ((i / 26 : Nat) : Int) from rfl, wrap_i64 (by omega) (by omega)]
          have hq2 : (i : Int).tmod 26 = ((i % 26 : Nat) : Int) := rfl
          have ha1 : IntKind.i64.wrap (97 + ((i / 26 : Nat) : Int)) = ((97 + i / 26 : Nat) : Int) := by rw [wrap_i64 (by omega) (by omega)]; omega
          have ha2 : IntKind.i64.wrap (97 + ((i % 26 : Nat) : Int)) = ((97 + i % 26 : Nat) : Int) := by rw [wrap_i64 (by omega) (by omega)]; omega
          have hb1 : IntKind.u8.wrap ((97 + i / 26 : Nat) : Int) = ((97 + i / 26 : Nat) : Int) := wrap_u8 (by omega) (by omega)
          have hb2 : IntKind.u8.wrap ((97 + i % 26 : Nat) : Int) = ((97 + i % 26 : Nat) : Int) := wrap_u8 (by omega) (by omega)
          have wi : IntKind.i64.wrap ((i : Int) + 1) = ((i + 1 : Nat) : Int) := by rw [wrap_i64 (by omega) (by omega)]; omega
          have hp := putT i (by omega)
          have hu := nowT_used (min i 60) (by omega)
          simp only [w_seq, w_region, mk_clean, tS_cons, g_none, hold_app, o_move, Nat.reduceLT, move_tmp, movK, Nat.reduceBEq, look_miss, look_hit, DV.roA, DV.ro, dropLk, o_bin, nil_tmp, Bool.false_eq_true, rho_tmp, b_lss, e1, decide_true, mk_put?_some, tS_nil, hold_app2, w_cond, cd_t, w_skip, w_block, nil_int, rho_const, constDV, b_quo, ne_eq, Int.reduceEq, not_false_eq_true, hq1, b_add, ha1, o_conv, cv35, hb1, b_rem, hq2, ha2, hb2, bs48, bs2_int, mk_put, cv489, bytes_two, s_add, List.length_cons, List.length_nil, Nat.zero_add, List.cons_append, List.nil_append, o_fn, args_cons, args_nil, mk_H, env_cons, Nat.reduceEqDiff, if_false, if_true, dcl_some, List.all_cons, DV.flat, List.all_nil, Bool.and_self, List.map_cons, List.map_nil, true_and, cvB_some, Nat.reduceAdd, Nat.reduceLeDiff]
          have hnm : (1 : Nat) + 2 ≤ 9223372036854775807 := by decide
          try refine ⟨hnm, ?_⟩
          by_cases c : i < 60
          · have c1 : (i : Int) < 60 := by omega
            rw [if_pos c] at hp
            refine capp12 0 hs (by omega) (by decide) (by decide) (by omega) (by simp) (by simp) hp fun H7 f7 s7 => ?_
            have s8 : ShelfAt H7 id k n' [] (nowT (min (i + 1) 60)) (acts ++ [⟨1, nmT i, []⟩]) 10 := by
              have e5 : min i 60 = i := by omega
              have e6 : min (i + 1) 60 = i + 1 := by omega
              rw [e6, ← nowT_step i c]
              rw [e5] at s7
              exact s7
            simp only [hold_app2, mk_called, Pos.isHp, List.filter_nil, mk_put?_some, dropLk, hold_app, tS_cons, g_none, o_assign, Nat.reduceLT, take_tmp, takK, look_hit, DV.roA, DV.ro, mk_put, tS_nil, w_seq, w_region, mk_clean, o_move, move_tmp, movK, o_bin, nil_int, Bool.false_eq_true, rho_tmp, rho_const, constDV, b_eql, decide_true, Nat.reduceBEq, look_miss, b_lss, c1, nil_tmp, t_neq Go.Proofs.Try.underlying4, bne_self_eq_false, g_some, gq_succ, gq_zero, gs1_eq, gs2_ff, mk_setT, b_neq, ne_eq, not_true_eq_false, decide_false, gs2_ft, o_pick, pk, List.map_nil, if_false, w_cond, cd_f, w_skip, b_add, wi, mk_forget, List.map_cons]
            exact ⟨kk - (i + 1), by omega, i + 1, H7, id, k, n', _, by omega, rfl, s8, by simp; omega, rfl⟩
          · have c1 : ¬ (i : Int) < 60 := by omega
            rw [if_neg c] at hp
            refine capp12 15 hs (by omega) (by decide) (by decide) (by omega) (by simp) (by simp) hp fun H7 f7 s7 => ?_
            have s8 : ShelfAt H7 id k n' [] (nowT (min (i + 1) 60)) acts 10 := by
              have e5 : min i 60 = 60 := by omega
              have e6 : min (i + 1) 60 = 60 := by omega
              rw [e6]
              rw [e5] at s7
              exact s7
            simp only [hold_app2, mk_called, Pos.isHp, List.filter_nil, mk_put?_some, dropLk, hold_app, tS_cons, g_none, o_assign, Nat.reduceLT, take_tmp, takK, look_hit, DV.roA, DV.ro, mk_put, tS_nil, w_seq, w_region, mk_clean, o_move, move_tmp, movK, o_bin, nil_int, Bool.false_eq_true, rho_tmp, rho_const, constDV, b_eql, Int.reduceEq, decide_false, Nat.reduceBEq, look_miss, b_lss, c1, nil_tmp, t_neq Go.Proofs.Try.underlying4, bne_self_eq_false, g_some, gq_succ, gq_zero, gs1_eq, gs2_ff, mk_setT, b_neq, ne_eq, not_false_eq_true, decide_true, gs2_tt, not_true_eq_false, o_pick, pk, if_true, if_false, w_cond, cd_f, w_skip, b_add, wi, mk_forget, List.map_cons, List.map_nil]
            exact ⟨kk - (i + 1), by omega, i + 1, H7, id, k, n', acts, by omega, rfl, s8, by omega, rfl⟩
        · have e1 : ¬ (i : Int) < kk := by omega
          obtain rfl : i = kk := by omega
          have hmk : (if 60 < (i : Int) then 60 else (i : Int)) = ((min i 60 : Nat) : Int) := by split <;> omega
          have hnd : ((nowT (min i 60)).map (·.1)).Nodup := by
            have : min i 60 = 59 ∨ min i 60 = 60 := by omega
            rcases this with h | h <;> rw [h]
            · exact nowT_kn.1
            · exact nowT_kn.2
          simp only [w_seq, w_region, mk_clean, tS_cons, g_none, hold_app, o_move, Nat.reduceLT, move_tmp, movK, Nat.reduceBEq, look_miss, look_hit, DV.roA, DV.ro, dropLk, o_bin, nil_tmp, Bool.false_eq_true, rho_tmp, b_lss, e1, decide_false, mk_put?_some, tS_nil, hold_app2, w_cond, cd_f, w_exit, o_fn, args_cons, args_nil, mk_H, env_cons, Nat.reduceEqDiff, if_false, if_true, dcl_some, List.all_cons, DV.flat, List.all_nil, Bool.and_self, List.map_cons, List.map_nil, true_and]
          refine app31 hs hnd (by rw [nowT_len]; omega) (nowT_short _) ?_
          simp only [hold_app2, mk_called, Pos.isHp, List.filter_nil, mk_put?_some, dropLk, hold_app, tS_cons, g_none, o_len, Nat.reduceLT, rho_tmp, look_hit, dl45, namesF_lenD, nowT_len, o_move, move_tmp, movK, Nat.reduceBEq, look_miss, DV.roA, DV.ro, o_min, rho_const, constDV, m_min, hmk, o_bin, nil_tmp, Bool.false_eq_true, b_eql, decide_true, o_assign, take_tmp, takK, mk_put, tS_nil, w_ret, ret_one, DV.flat, true_and, if_false]
          rfl
  · refine capp12 15 s1 (by decide) h0 (by omega) (by simp) (by decide) (by omega) (by simp [putC, getF, usedF, show namedF [97] = true by decide]; omega) fun H2 f2 s2 => ?_
    replace s2 : ShelfAt H2 (H0.length + 2) H0.length (H0.length + 1) [] [] [] r := s2
    simp only [hold_app2, mk_called, Pos.isHp, List.filter_cons, Bool.not_false, List.filter_nil, if_true, mk_put?_some, dropLk, Nat.reduceBEq, Pos.atSlot, Bool.or_false, Bool.false_eq_true, if_false, hold_app, tS_cons, g_none, o_assign, Nat.reduceLT, take_tmp, takK, look_hit, DV.roA, DV.ro, mk_put, tS_nil, w_seq, w_region, mk_clean, o_move, move_tmp, movK, o_bin, nil_int, rho_tmp, rho_const, constDV, b_eql, Int.reduceEq, decide_false, look_miss, nil_tmp, b_leq, hnr, t_neq Go.Proofs.Try.underlying4, bne_self_eq_false, g_some, gq_succ, gq_zero, gs1_eq, gs2_ff, mk_setT, b_neq, ne_eq, not_false_eq_true, decide_true, gs2_tt, not_true_eq_false, o_fn, args_cons, args_nil, mk_H, env_cons, Nat.reduceEqDiff, dcl_some, List.all_cons, DV.flat, List.all_nil, Bool.and_self, List.map_cons, List.map_nil, true_and]
    refine app31 s2 (by decide) (by decide) (by decide) ?_
    simp only [hold_app2, mk_called, Pos.isHp, List.filter_nil, mk_put?_some, dropLk, hold_app, tS_cons, g_some, gq_succ, gq_zero, Nat.reduceLT, gs1_eq, Nat.reduceBEq, look_miss, look_hit, gs2_ff, mk_setT, o_len, rho_tmp, dl45, namesF_lenD, List.length_nil, nc0, o_bin, nil_int, Bool.false_eq_true, rho_const, constDV, b_neq, ne_eq, not_true_eq_false, decide_false, gs2_tt, o_pick, pk, DV.roA, DV.ro, if_false, if_true, g_none, tS_nil, w_cond, cd_f, w_skip, w_seq, w_region, mk_clean, o_move, move_tmp, movK, b_eql, Int.reduceEq, o_fn, args_cons, args_nil, mk_H, env_cons, Nat.reduceEqDiff, dcl_some, List.all_cons, DV.flat, List.all_nil, Bool.and_self, List.map_cons, List.map_nil, true_and]
    refine capp10 fun H5 f5 g5 t5 => ?_
    simp only [hold_app2, mk_called, Pos.isHp, List.filter_nil, mk_put?_some, dropLk, hold_app, tS_cons, g_none, o_assign, Nat.reduceLT, take_tmp, takK, look_hit, DV.roA, DV.ro, mk_put, tS_nil, w_seq, w_region, mk_clean, o_move, move_tmp, movK, Nat.reduceBEq, look_miss, o_bin, nil_int, Bool.false_eq_true, rho_tmp, rho_const, constDV, b_rem, ne_eq, Int.reduceEq, not_false_eq_true, o_conv, cv53, nil_tmp, b_add, hkk, take_const, w_block, if_false, true_and]
    refine w_loop [11, 12, 13] (M6 kk) kk ?_ ?_
    · exact ⟨0, H5, _, _, _, [], by omega, by omega, t5, by simp, by simp only [mk_forget, List.map_cons, Nat.reduceBEq, look_miss, look_hit, List.map_nil, nc0]; try rfl⟩
    · rintro m st ⟨i, H6, id, k, n', acts, hi, rfl, hs, hal, rfl⟩
      by_cases e : i < kk
      · have e1 : (i : Int) < kk := by omega
        have hq1 : IntKind.i64.wrap ((i : Int).tdiv 26) = ((i / 26 : Nat) : Int) := by
          rw [show (i : Int).tdiv 26 = ((i / 26 : Nat) : Int) from rfl, wrap_i64 (by omega) (by omega)]
        have hq2 : (i : Int).tmod 26 = ((i % 26 : Nat) : Int) := rfl
        have ha1 : IntKind.i64.wrap (97 + ((i / 26 : Nat) : Int)) = ((97 + i / 26 : Nat) : Int) := by rw [wrap_i64 (by omega) (by omega)]; omega
        have ha2 : IntKind.i64.wrap (97 + ((i % 26 : Nat) : Int)) = ((97 + i % 26 : Nat) : Int) := by rw [wrap_i64 (by omega) (by omega)]; omega
        have hb1 : IntKind.u8.wrap ((97 + i / 26 : Nat) : Int) = ((97 + i / 26 : Nat) : Int) := wrap_u8 (by omega) (by omega)
        have hb2 : IntKind.u8.wrap ((97 + i % 26 : Nat) : Int) = ((97 + i % 26 : Nat) : Int) := wrap_u8 (by omega) (by omega)
        have wi : IntKind.i64.wrap ((i : Int) + 1) = ((i + 1 : Nat) : Int) := by rw [wrap_i64 (by omega) (by omega)]; omega
        have hp := putT i (by omega)
        have hu := nowT_used (min i 60) (by omega)
        simp only [w_seq, w_region, mk_clean, tS_cons, g_none, hold_app, o_move, Nat.reduceLT, move_tmp, movK, Nat.reduceBEq, look_miss, look_hit, DV.roA, DV.ro, dropLk, o_bin, nil_tmp, Bool.false_eq_true, rho_tmp, b_lss, e1, decide_true, mk_put?_some, tS_nil, hold_app2, w_cond, cd_t, w_skip, w_block, nil_int, rho_const, constDV, b_quo, ne_eq, Int.reduceEq, not_false_eq_true, hq1, b_add, ha1, o_conv, cv35, hb1, b_rem, hq2, ha2, hb2, bs48, bs2_int, mk_put, cv489, bytes_two, s_add, List.length_cons, List.length_nil, Nat.zero_add, List.cons_append, List.nil_append, o_fn, args_cons, args_nil, mk_H, env_cons, Nat.reduceEqDiff, if_false, if_true, dcl_some, List.all_cons, DV.flat, List.all_nil, Bool.and_self, List.map_cons, List.map_nil, true_and, cvB_some, Nat.reduceAdd, Nat.reduceLeDiff]
        have hnm : (1 : Nat) + 2 ≤ 9223372036854775807 := by decide
        try refine ⟨hnm, ?_⟩
        by_cases c : i < 60
        · have c1 : (i : Int) < 60 := by omega
          rw [if_pos c] at hp
          refine capp12 0 hs (by omega) (by decide) (by decide) (by omega) (by simp) (by simp) hp fun H7 f7 s7 => ?_
          have s8 : ShelfAt H7 id k n' [] (nowT (min (i + 1) 60)) (acts ++ [⟨1, nmT i, []⟩]) 10 := by
            have e5 : min i 60 = i := by omega
            have e6 : min (i + 1) 60 = i + 1 := by omega
            rw [e6, ← nowT_step i c]
            rw [e5] at s7
            exact s7
          simp only [hold_app2, mk_called, Pos.isHp, List.filter_nil, mk_put?_some, dropLk, hold_app, tS_cons, g_none, o_assign, Nat.reduceLT, take_tmp, takK, look_hit, DV.roA, DV.ro, mk_put, tS_nil, w_seq, w_region, mk_clean, o_move, move_tmp, movK, o_bin, nil_int, Bool.false_eq_true, rho_tmp, rho_const, constDV, b_eql, decide_true, Nat.reduceBEq, look_miss, b_lss, c1, nil_tmp, t_neq Go.Proofs.Try.underlying4, bne_self_eq_false, g_some, gq_succ, gq_zero, gs1_eq, gs2_ff, mk_setT, b_neq, ne_eq, not_true_eq_false, decide_false, gs2_ft, o_pick, pk, List.map_nil, if_false, w_cond, cd_f, w_skip, b_add, wi, mk_forget, List.map_cons]
          exact ⟨kk - (i + 1), by omega, i + 1, H7, id, k, n', _, by omega, rfl, s8, by simp; omega, rfl⟩
        · have c1 : ¬ (i : Int) < 60 := by omega
          rw [if_neg c] at hp
          refine capp12 15 hs (by omega) (by decide) (by decide) (by omega) (by simp) (by simp) hp fun H7 f7 s7 => ?_
          have s8 : ShelfAt H7 id k n' [] (nowT (min (i + 1) 60)) acts 10 := by
            have e5 : min i 60 = 60 := by omega
            have e6 : min (i + 1) 60 = 60 := by omega
            rw [e6]
            rw [e5] at s7
            exact s7
          simp only [hold_app2, mk_called, Pos.isHp, List.filter_nil, mk_put?_some, dropLk, hold_app, tS_cons, g_none, o_assign, Nat.reduceLT, take_tmp, takK, look_hit, DV.roA, DV.ro, mk_put, tS_nil, w_seq, w_region, mk_clean, o_move, move_tmp, movK, o_bin, nil_int, Bool.false_eq_true, rho_tmp, rho_const, constDV, b_eql, Int.reduceEq, decide_false, Nat.reduceBEq, look_miss, b_lss, c1, nil_tmp, t_neq Go.Proofs.Try.underlying4, bne_self_eq_false, g_some, gq_succ, gq_zero, gs1_eq, gs2_ff, mk_setT, b_neq, ne_eq, not_false_eq_true, decide_true, gs2_tt, not_true_eq_false, o_pick, pk, if_true, if_false, w_cond, cd_f, w_skip, b_add, wi, mk_forget, List.map_cons, List.map_nil]
          exact ⟨kk - (i + 1), by omega, i + 1, H7, id, k, n', acts, by omega, rfl, s8, by omega, rfl⟩
      · have e1 : ¬ (i : Int) < kk := by omega
        obtain rfl : i = kk := by omega
        have hmk : (if 60 < (i : Int) then 60 else (i : Int)) = ((min i 60 : Nat) : Int) := by split <;> omega
        have hnd : ((nowT (min i 60)).map (·.1)).Nodup := by
          have : min i 60 = 59 ∨ min i 60 = 60 := by omega
          rcases this with h | h <;> rw [h]
          · exact nowT_kn.1
          · exact nowT_kn.2
        simp only [w_seq, w_region, mk_clean, tS_cons, g_none, hold_app, o_move, Nat.reduceLT, move_tmp, movK, Nat.reduceBEq, look_miss, look_hit, DV.roA, DV.ro, dropLk, o_bin, nil_tmp, Bool.false_eq_true, rho_tmp, b_lss, e1, decide_false, mk_put?_some, tS_nil, hold_app2, w_cond, cd_f, w_exit, o_fn, args_cons, args_nil, mk_H, env_cons, Nat.reduceEqDiff, if_false, if_true, dcl_some, List.all_cons, DV.flat, List.all_nil, Bool.and_self, List.map_cons, List.map_nil, true_and]
        refine app31 hs hnd (by rw [nowT_len]; omega) (nowT_short _) ?_
        simp only [hold_app2, mk_called, Pos.isHp, List.filter_nil, mk_put?_some, dropLk, hold_app, tS_cons, g_none, o_len, Nat.reduceLT, rho_tmp, look_hit, dl45, namesF_lenD, nowT_len, o_move, move_tmp, movK, Nat.reduceBEq, look_miss, DV.roA, DV.ro, o_min, rho_const, constDV, m_min, hmk, o_bin, nil_tmp, Bool.false_eq_true, b_eql, decide_true, o_assign, take_tmp, takK, mk_put, tS_nil, w_ret, ret_one, DV.flat, true_and, if_false]
        rfl
end Go.Ab.Sh
