/- A part of the proofs that a law function returns true at every input; it has no condition of its own. -/
import Derived.Test.YtoebbafmopdfbaaGreatDoorEnCI
set_option linter.unusedSimpArgs false
set_option linter.unusedVariables false
namespace Go.Ab.En
open Go Go.Conc Go.RowKit Go.Ab
set_option maxRecDepth 10000
theorem ex_trJ {k : List UInt8} : (∃ x, some k = some x ∧ DV.str k = DV.str x) = True := by simp
theorem ex_strJ {k : List UInt8} {F : DV → Prop} : ex (fun dv => ∃ x, some k = some x ∧ dv = DV.str x) F = F (.str k) := by simp [ex]
theorem bytes_rep : ∀ k : Nat, bytesOf (List.replicate k (DV.int .u8 0)) = some (List.replicate k 0)
  | 0 => rfl
  | k + 1 => by simp [List.replicate_succ, bytesOf, bytes_rep k]
theorem code_rep (p q : Nat) : writeC false [] ⟨List.replicate p 0, false, List.replicate q 0⟩ = if 1 ≤ p ∧ p ≤ 12 ∧ q ≤ 24 then 0 else 10 := by
  simp only [writeC, keyedB, List.length_replicate, idxP]
  by_cases h1 : 1 ≤ p <;> by_cases h2 : p ≤ 12 <;> by_cases h3 : q ≤ 24 <;> simp [h1, h2, h3] <;> omega
noncomputable def b28 : Code := (Go.Proofs.Tryz.f28.body).getD .skip
theorem hb28 : Go.Proofs.Tryz.f28.body = some b28 := by kernel_rfl
def SOpn : Spec := fun H args K => args = [] ∧ ∀ H' (E : EngS), Fr [] H H' → E.Is E.x 0 [] [] H' → K H' (.ptr E.x 0)
theorem rcOpn : RC (loneJ pp) 28 SOpn := by
  have hI := hI1
  refine rc_of_code (isObj := noO) (Γ := envOf [(17, S17), (16, SMade)]) (rs := [0]) mixed hI (envOf_rc (by simpa using ⟨L_new, L_open⟩)) Go.Proofs.Tryz.func28 (by kernel_rfl) hb28 Go.Proofs.Tryz.results28 Go.Proofs.Tryz.ntmps28 (by decide) ?_
  rintro H args K ⟨rfl, hK⟩
  refine ⟨by simp, rfl, ?_⟩
  unfold b28 Go.Proofs.Tryz.f28
  simp only [Option.getD_some, argSlots, BB0, BB1, constDV, dropLk, BB4, BB5, Nat.reduceEqDiff, if_false, if_true, List.all_cons, List.all_nil, Bool.and_self, List.map_cons, List.map_nil, true_and]
  refine capp17 fun H1 f1 l1 s1 => ?_
  simp only [BB1, BB5, Pos.isHp, List.filter_nil, dropLk, BB0, BB4, Nat.reduceLT, BB3, Nat.reduceEqDiff, if_true, if_false, List.all_cons, BB2, List.all_nil, Bool.and_self, List.map_cons, List.map_nil, true_and]
  refine appMadeX s1 (by decide) fun H2 E f2 a2 g2 es2 hd2 => ?_
  simp only [BB1, BB5, Pos.isHp, List.filter_nil, dropLk, BB0, Nat.reduceLT, movK, BB3, BB2, List.map_cons, List.map_nil, extK, Nat.reduceBEq, takK, BB4, Bool.false_eq_true, constDV, ne_eq, not_true_eq_false, decide_false, cd_f, BB6, true_and, if_false]
  exact hK H2 E ((f1.trans f2).mono fun j hj hm => by simp at hm; omega) ⟨rfl, a2, g2, es2, hd2⟩
/-- The first of a row of writes. -/
theorem out_first {H H' : List HObj} {v : DV} {ws : List Wr} {w : Wr} (o : OutR H H' v ws) (h : ws[0]? = some w) : ∃ id cap r, v = .hsl id 3 0 ws.length cap ∧ cap ≠ 0 ∧ H'[id]? = some (.cells (.str w.key :: .bool w.del :: .str w.val :: r)) ∧ (H.length ≤ id) := by
  rcases o with ⟨own, rfl, rfl⟩ | ⟨id, cap, rfl, o, hn⟩
  · cases h
  · obtain ⟨w', r', rfl⟩ : ∃ w' r', ws = w' :: r' := by
      cases ws with
      | nil => cases h
      | cons a b => exact ⟨_, _, rfl⟩
    obtain rfl : w' = w := by simpa using h
    have hc : cap ≠ 0 := by have := o.1; simp at this; omega
    obtain ⟨sp, t, _⟩ := o.2 hc
    exact ⟨id, cap, flatW r' ++ sp, rfl, hc, by rw [t]; simp [flatW, Wr.cells], hn hc⟩
noncomputable def b5 : Code := (Go.Proofs.Tryz.f5.body).getD .skip
theorem hb5 : Go.Proofs.Tryz.f5.body = some b5 := by kernel_rfl
def putK (i : Nat) : Wr := ⟨[UInt8.ofNat (97 + i)], false, [118]⟩
def putsW (j : Nat) : List Wr := (List.range j).map putK
theorem puts_step : ∀ i : Fin 10, writeC false (putsW (min i.1 8)) (putK i.1) = (if i.1 < 8 then 0 else 17) ∧ writeW false (putsW (min i.1 8)) (putK i.1) = putsW (min (i.1 + 1) 8) := by decide +kernel
theorem puts_nodup : ∀ i : Fin 10, ((putsW (min i.1 8)).map (·.key)).Nodup := by decide +kernel
def agW : Wr := ⟨[97], false, [97, 103, 97, 105, 110]⟩
def dlW : Wr := ⟨[97], true, []⟩
def W1 (mm : Nat) : List Wr := putsW (min mm 8)
def W2 (mm : Nat) : List Wr := writeW false (W1 mm) agW
def W3 (mm : Nat) : List Wr := writeW false (W2 mm) dlW
theorem W_ok : ∀ j : Fin 3, writeC false (W1 (7 + j.1)) agW = 0 ∧ ((W2 (7 + j.1)).map (·.key)).Nodup ∧ (W2 (7 + j.1)).length < 100000 ∧ writeC false (W2 (7 + j.1)) dlW = 0 ∧ (W3 (7 + j.1)).length = min (7 + j.1) 8 ∧ (W3 (7 + j.1))[0]? = some dlW ∧ ((W1 (7 + j.1)).map (·.key)).Nodup ∧ (W3 (7 + j.1)).length < 100000 := by decide +kernel
def ML (E : EngS) (x p : Nat) (hd : Hd) (b c : Int) (mm : Nat) (k : Nat) (st : St) : Prop := ∃ (i : Nat) (H' : List HObj) (D : DealS), i ≤ mm ∧ k = mm - i ∧ E.Is x 0 [] hd H' ∧ D.On E H' ∧ D.d = p ∧ D.over = false ∧ D.ws = putsW (min i 8) ∧
  st = mk 123 [(1, .int .u8 b), (2, .int .u8 c), (7, .ptr x 0), (8, .ptr p 0), (9, .int .i64 mm), (10, .int .i64 i)] [] H' []
set_option maxHeartbeats 8000000 in
theorem law5 {N0 : Nat} {w0 : World} {d : Nat} {G : Gh} {w : World} {vs : Array Value} (a b c : Int) (ha : 0 ≤ a) (ha2 : a < 256) (hb : 0 ≤ b) (hb2 : b < 256) (hc : 0 ≤ c) (hc2 : c < 256) (hW : WRel N0 w0 G w []) (hF : Fits G w [.int .u8 a, .int .u8 b, .int .u8 c] vs) :
    Calls pp 5 vs w fun e w' => ∃ v, e = .returned v ∧ Back N0 w0 d G w (fun _ dv => dv = .bool true) v w' := by
  refine calls_of_code (isObj := noO) (Γ := envOf [(27, SKn), (28, SOpn), (29, SDOpen), (30, SPut), (31, SDel), (32, SWrs)]) (rs := [6]) mixed (envOf_rc (by simpa using ⟨rcKn17, rcOpn, L_dopen, L_put, L_del, L_wrs⟩)) Go.Proofs.Tryz.func5 hb5 Go.Proofs.Tryz.results5 Go.Proofs.Tryz.ntmps5 (by decide) (args := [.int .u8 a, .int .u8 b, .int .u8 c]) (by simp) rfl ?_ hW hF
  unfold b5 Go.Proofs.Tryz.f5
  have e3 : a.tmod 3 = a % 3 := Int.tmod_eq_emod_of_nonneg ha
  have w1 : IntKind.i64.wrap (7 + a % 3) = ((7 + (a % 3).toNat : Nat) : Int) := by rw [wrap_i64 (by omega) (by omega)]; omega
  have w0' : IntKind.i64.wrap (a % 3) = a % 3 := wrap_i64 (by omega) (by omega)
  simp only [List.append_eq, List.cons_append, List.nil_append, Option.getD_some, argSlots, BB1, Nat.zero_add, Nat.reduceAdd, BB0, constDV, dropLk, BB4, BB5, Nat.reduceEqDiff, if_false, if_true, List.all_nil, List.map_nil, true_and]
  refine ⟨rfl, fun H0 => ?_⟩
  simp only [BB1, BB5, Pos.isHp, List.filter_nil, dropLk, BB0, Nat.reduceLT, BB3, BB4, Bool.not_true, cd_f, Nat.reduceEqDiff, if_false, if_true, List.all_nil, List.map_nil, true_and]
  refine ⟨rfl, fun H1 E f1 i1 => ?_⟩
  obtain ⟨x, hx⟩ : ∃ x, E.x = x := ⟨_, rfl⟩
  rw [hx] at i1
  simp only [hx, BB1, BB5, Pos.isHp, List.filter_nil, dropLk, BB0, Nat.reduceLT, takK, BB3, BB2, movK, BB4, Bool.false_eq_true, constDV, p_eql Go.Proofs.Tryz.underlying23, cd_f, Nat.reduceBEq, Nat.reduceEqDiff, if_false, if_true, List.all_cons, List.all_nil, Bool.and_self, List.map_cons, List.map_nil, true_and]
  refine appDOpenX i1 (by decide) (by decide) fun H2 E2 D f2 i2 al2 D2 n2 m2 r2 w2 o2 l2 => ?_
  obtain ⟨p, hp⟩ : ∃ p, D.d = p := ⟨_, rfl⟩
  simp only [hp, BB1, BB5, Pos.isHp, List.filter_nil, dropLk, BB0, Nat.reduceLT, takK, BB3, BB2, movK, Nat.reduceBEq, BB4, Bool.false_eq_true, constDV, ne_eq, Int.reduceEq, not_false_eq_true, e3, cv5_3, w0', w1, if_false, true_and]
  obtain ⟨mm, hmm⟩ : ∃ mm, 7 + (a % 3).toNat = mm := ⟨_, rfl⟩
  have hm7 : 7 ≤ mm ∧ mm ≤ 9 := by omega
  simp only [hmm]
  refine w_loop [1, 2, 7, 8, 9, 10] (ML E2 x p (holdH [] ((0 : Nat) : Int)) b c mm) mm ?_ ?_
  · exact ⟨0, H2, D, by omega, by omega, i2, D2, hp, o2, by rw [w2]; rfl, by simp only [BB1, List.map_cons, Nat.reduceBEq, BB3, List.map_nil, BB4]; try rfl⟩
  · rintro k st ⟨i, H', D', hi, rfl, i3, D3, p3, o3, w3, rfl⟩
    by_cases e : i < mm
    · have e1 : (i : Int) < mm := by omega
      have wi : IntKind.i64.wrap ((i : Int) + 1) = ((i + 1 : Nat) : Int) := by rw [wrap_i64 (by omega) (by omega)]; omega
      simp only [BB0, BB1, Nat.reduceLT, movK, Nat.reduceBEq, BB3, dropLk, BB4, Bool.false_eq_true, e1, decide_true, cd_t, BB2, constDV, cv3_5, bs36_1, isO_eq, List.all_cons, List.length_cons, List.length_nil, Nat.zero_add, beq_self_eq_true, List.all_nil, Bool.and_self, cv36_9, BB5, Nat.reduceEqDiff, if_false, if_true, List.map_cons, List.map_nil, true_and]
      have w97 : IntKind.u8.wrap (IntKind.i64.wrap (97 + (i : Int))) = 97 + (i : Int) := by rw [wrap_i64 (by omega) (by omega), wrap_u8 (by omega) (by omega)]
      have t97 : (97 + (i : Int)).toNat = 97 + i := by omega
      refine ⟨[UInt8.ofNat (97 + i)], by rw [w97]; simp [bytesOf, t97], ?_⟩
      obtain ⟨pc, pw⟩ := puts_step ⟨i, by omega⟩
      have pn := puts_nodup ⟨i, by omega⟩
      simp only at pc pw pn
      refine appPutX p3 i3 D3 (by rw [w3]; simp [putsW]; omega) (by rw [w3]; exact pn) (by decide) fun H4 D4 f4 i4 D4on d4 s4 n4 m4 r4 o4 w4 l4 => ?_
      rw [o3] at o4
      rw [o3, w3, show (⟨[UInt8.ofNat (97 + i)], false, [118]⟩ : Wr) = putK i from rfl, pw] at w4
      rw [o3, w3, show (⟨[UInt8.ofNat (97 + i)], false, [118]⟩ : Wr) = putK i from rfl]
      by_cases h8 : i < 8
      · have e8 : (i : Int) < 8 := by omega
        rw [pc.trans (if_pos h8)]
        simp only [BB1, BB5, Pos.isHp, List.filter_nil, dropLk, BB0, Nat.reduceLT, takK, BB3, movK, BB4, Bool.false_eq_true, constDV, decide_true, Nat.reduceBEq, e8, t_neq Go.Proofs.Tryz.underlying4, bne_self_eq_false, gs2_ff, ne_eq, not_true_eq_false, decide_false, gs2_ft, BB2, List.map_nil, if_false, cd_f, wi, List.map_cons]
        refine ⟨_, ?_, i + 1, H4, D4, by omega, rfl, i4, D4on, by rw [d4, p3], o4, w4, rfl⟩
        omega
      · have e8 : ¬ (i : Int) < 8 := by omega
        rw [pc.trans (if_neg h8)]
        simp only [BB1, BB5, Pos.isHp, List.filter_nil, dropLk, BB0, Nat.reduceLT, takK, BB3, movK, BB4, Bool.false_eq_true, constDV, Int.reduceEq, decide_false, Nat.reduceBEq, e8, t_neq Go.Proofs.Tryz.underlying4, bne_self_eq_false, gs2_ff, ne_eq, not_false_eq_true, decide_true, gs2_tt, not_true_eq_false, if_true, if_false, cd_f, wi, List.map_cons, List.map_nil]
        refine ⟨_, ?_, i + 1, H4, D4, by omega, rfl, i4, D4on, by rw [d4, p3], o4, w4, rfl⟩
        omega
    · have e1 : ¬ (i : Int) < mm := by omega
      obtain rfl : i = mm := by omega
      have b3 : b.tmod 16 = b % 16 := Int.tmod_eq_emod_of_nonneg hb
      have c3 : c.tmod 3 = c % 3 := Int.tmod_eq_emod_of_nonneg hc
      have wb : IntKind.i64.wrap (b % 16) = b % 16 := wrap_i64 (by omega) (by omega)
      have wc : IntKind.i64.wrap (c % 3) = c % 3 := wrap_i64 (by omega) (by omega)
      have wc2 : IntKind.i64.wrap (23 + c % 3) = 23 + c % 3 := wrap_i64 (by omega) (by omega)
      simp only [BB0, BB1, Nat.reduceLT, movK, Nat.reduceBEq, BB3, dropLk, BB4, Bool.false_eq_true, e1, decide_false, cd_f, constDV, takK, ne_eq, Int.reduceEq, not_false_eq_true, b3, cv5_3, wb, c3, wc, wc2, BB2, BB5, Nat.reduceEqDiff, if_false, if_true, List.all_cons, List.all_nil, Bool.and_self, List.map_cons, List.map_nil, true_and]
      obtain ⟨j, hj⟩ : ∃ j : Fin 3, 7 + j.1 = i := ⟨⟨i - 7, by omega⟩, by simp only; omega⟩
      obtain ⟨q1, q2, q3, q4, q5, q6, q7, q8⟩ := W_ok j
      rw [hj] at q1 q2 q3 q4 q5 q6 q7 q8
      replace w3 : D'.ws = W1 i := w3
      refine appPutX p3 i3 D3 (by rw [w3]; simp [W1, putsW]; omega) (by rw [w3]; exact q7) (by decide) fun H4 D4 f4 i4 D4on d4 s4 n4 m4 r4 o4 w4 l4 => ?_
      rw [o3] at o4
      rw [o3, w3, show (⟨[97], false, [97, 103, 97, 105, 110]⟩ : Wr) = agW from rfl] at w4
      rw [o3, w3, show (⟨[97], false, [97, 103, 97, 105, 110]⟩ : Wr) = agW from rfl, q1]
      replace w4 : D4.ws = W2 i := w4
      simp only [BB1, BB5, Pos.isHp, List.filter_nil, dropLk, BB0, Nat.reduceLT, takK, BB3, movK, Nat.reduceBEq, BB2, BB4, constDV, Nat.reduceEqDiff, if_false, if_true, List.all_cons, List.all_nil, Bool.and_self, List.map_cons, List.map_nil, true_and]
      refine appDelX (by rw [d4, p3]) i4 D4on (by rw [w4]; exact q3) (by rw [w4]; exact q2) fun H5 D5 f5 i5 D5on d5 s5 n5 m5 r5 o5 w5 l5 => ?_
      rw [o4] at o5
      rw [o4, w4, show (⟨[97], true, []⟩ : Wr) = dlW from rfl] at w5
      rw [o4, w4, show (⟨[97], true, []⟩ : Wr) = dlW from rfl, q4]
      replace w5 : D5.ws = W3 i := w5
      simp only [BB1, BB5, Pos.isHp, List.filter_nil, dropLk, BB0, Nat.reduceLT, takK, BB3, movK, Nat.reduceBEq, BB2, BB4, constDV, Nat.reduceEqDiff, if_false, if_true, List.all_cons, List.all_nil, Bool.and_self, List.map_cons, List.map_nil, true_and]
      refine appDOpenX i5 (by decide +kernel) (by decide +kernel) fun H6 E6 X f6 i6 al6 X6 nX mX rX wX oX lX => ?_
      have D6 : D5.On E6 H6 := D5on.move f6 D5on.ap (by rw [i6.hx, i5.hx]) fun y hy => .inl (by rw [← al6]; exact hy)
      obtain ⟨px, hpx⟩ : ∃ px, X.d = px := ⟨_, rfl⟩
      simp only [hpx, BB1, BB5, Pos.isHp, List.filter_nil, dropLk, BB0, Nat.reduceLT, takK, BB3, BB2]
      refine w_draw [2, 5, 7, 8] (.quiet 0 (.quiet 1 (.quiet 4 (.acts [(2, [4, 0], .quiet 3 (.acts [(5, [3, 1, 0], .quiet 6 (.acts [(7, [], .acts [(8, [], .done)])]))])), (5, [1, 0], .quiet 6 (.acts [(2, [6, 4, 0], .quiet 3 (.acts [(7, [], .acts [(8, [], .done)])]))]))])))) (by decide) (by kernel_rfl) ?_
      have u1 : 0 ≤ b % 16 := by omega
      have u2 : b % 16 ≤ 9223372036854775807 := by omega
      have u3 : (b % 16).toNat * 1 ≤ 281474976710656 := by omega
      have u4 : 0 ≤ 23 + c % 3 := by omega
      have u5 : 23 + c % 3 ≤ 9223372036854775807 := by omega
      have u6 : (23 + c % 3).toNat * 1 ≤ 281474976710656 := by omega
      simp only [BB0, BB5, BB1, Nat.reduceLT, BB3, BB2, dropLk, Nat.reduceBEq, mk36, isO_eq, BB6, u1, u2, u3, and_true, dropLks, cv36_9, bytes_rep, ex_strJ, u4, u5, u6, ex_trJ, BB4, Nat.reduceEqDiff, if_false, if_true, List.all_cons, List.all_nil, Bool.and_self, List.map_cons, List.map_nil, true_and]
      have rowX : ∀ y ∈ D5.all, y ∉ X.d :: X.wl := fun y hy hm => by
        have h1 := D5on.at'.lt y hy
        have h2 := lX y (DealS.sub hm)
        omega
      repeat' with_reducible apply And.intro
      all_goals
        refine appPutX hpx i6 X6 (by rw [wX]; decide) (by rw [wX]; exact List.nodup_nil) (by rw [List.length_replicate]; omega) fun H7 X7 f7 i7 X7on _ _ _ _ _ _ _ _ => ?_
        have D7 := D6.fr f7 rowX
        rw [oX, wX, code_rep]
        obtain ⟨cd, hcd⟩ : ∃ cd : Int, (if 1 ≤ (b % 16).toNat ∧ (b % 16).toNat ≤ 12 ∧ (23 + c % 3).toNat ≤ 24 then (0 : Int) else 10) = cd := ⟨_, rfl⟩
        simp only [hcd]
        have hc0 : 1 ≤ b % 16 → b % 16 ≤ 12 → 23 + c % 3 ≤ 24 → cd = 0 := fun h1 h2 h3 => hcd.symm.trans (if_pos ⟨by omega, by omega, by omega⟩)
        have hc1 : ¬ 1 ≤ b % 16 → cd = 10 := fun h => hcd.symm.trans (if_neg fun k => h (by have := k.1; omega))
        have hc2 : ¬ b % 16 ≤ 12 → cd = 10 := fun h => hcd.symm.trans (if_neg fun k => h (by have := k.2.1; omega))
        have hc3 : ¬ 23 + c % 3 ≤ 24 → cd = 10 := fun h => hcd.symm.trans (if_neg fun k => h (by have := k.2.2; omega))
        have hmd : decide (((min i 8 : Nat) : Int) = if (8 : Int) < (i : Int) then 8 else (i : Int)) = true := decide_eq_true (by split <;> omega)
        clear hcd
        by_cases g1 : 1 ≤ b % 16
        all_goals by_cases g2 : b % 16 ≤ 12
        all_goals by_cases g3 : 23 + c % 3 ≤ 24
        all_goals
          first
            | (replace hc0 := hc0 g1 g2 g3; subst hc0)
            | (replace hc1 := hc1 g1; subst hc1)
            | (replace hc2 := hc2 g2; subst hc2)
            | (replace hc3 := hc3 g3; subst hc3)
          simp only [BB1, BB5, Pos.isHp, List.filter_nil, dropLk, dropLks, BB0, Nat.reduceLT, takK, BB3, movK, Nat.reduceBEq, BB4, Bool.false_eq_true, constDV, g1, decide_true, gs2_tt, g2, if_true, g3, BB2, Nat.reduceEqDiff, if_false, List.all_cons, List.all_nil, Bool.and_self, List.map_cons, List.map_nil, true_and, and_true, decide_false, gs2_ft]
          refine ⟨D5, by rw [d5, d4, p3], D7.at', by rw [w5]; exact q8, fun H8 v8 f8 o8 => ?_⟩
          rw [w5] at o8
          obtain ⟨id, cap, r8, rfl, c8, t8, n8⟩ := out_first o8 q6
          have D8 := D7.fr f8 (by simp)
          simp only [q5, BB1, BB5, Pos.isHp, List.filter_nil, dropLk, BB0, Nat.reduceLT, Nat.reduceBEq, BB3, gs2_tt, dlh33, movK, BB4, Bool.false_eq_true, hmd, constDV, if_true, BB2, Nat.reduceEqDiff, if_false, List.all_cons, List.all_nil, Bool.and_self, List.map_cons, List.map_nil, true_and]
          refine ⟨D5, by rw [d5, d4, p3], D8.at', by rw [w5]; exact q8, fun H9 v9 f9 o9 => ?_⟩
          rw [w5] at o9
          obtain ⟨id9, cap9, r9, rfl, c9, t9, n9⟩ := out_first o9 q6
          have l0 : (0 : Int) < ((min i 8 : Nat) : Int) := by omega
          simp only [q5, BB1, BB5, Pos.isHp, List.filter_nil, dropLk, BB0, Nat.reduceLT, Nat.reduceBEq, BB3, gs2_tt, constDV, ixh33, Int.reduceLE, l0, Int.reduceToNat, Nat.zero_mul, Nat.add_zero, fp32_1, Nat.zero_add, t9, dlW, List.drop_succ_cons, List.drop_zero, la4, if_true, movK, BB4, Bool.false_eq_true, decide_true, t_eql Go.Proofs.Tryz.underlying4, beq_self_eq_true, gs2_tf, BB2, List.map_nil, takK, BB6, and_true, if_false, Int.reduceEq, decide_false, gs2_ff]
end Go.Ab.En
