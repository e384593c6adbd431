/- The statement DealOwn as its card says it: what a deal wrote it reads, in scans too, others read it when it is committed, and not ahead; it has no condition of its own. -/
import Derived.Test.YtoebbafmopdfbaaGreatDoorRows
import Derived.Test.YtoebbafmopdfbaaGreatDoorCards
import Derived.Test.YtoebbafmopdfbaaGreatDoorTie
import Derived.ProofKit
import Derived.Carry
import Derived.LaidMore
import Derived.OpenShut
import Derived.SevenTiedAt
import Derived.Conc.Holds
import Derived.ChangeSlices
import Derived.Test.YtoebbafmopdfbaaGreatDoorEnDD
set_option linter.unusedSimpArgs false
set_option linter.unusedVariables false
namespace Go.Ab.En
open Go Go.Conc Go.RowKit Go.Ab
def KT : List HObj → DV → Prop := fun _ dv => dv = .bool true
def G0 (W : World) : Gh := ⟨fun b => if b < W.heap.size then .imm else .no, fun _ => none, fun _ _ _ => none⟩
theorem wrel0 (W : World) : WRel W.heap.size W (G0 W) W [] := ⟨Below.refl _ _, Nat.le_refl _, fun b hb => .inl (by simp [G0, hb]), fun b hb => by simp [G0]; omega, by simp, fun _ _ => rfl⟩
theorem back_true {N0 : Nat} {w0 : World} {d : Nat} {G : Gh} {w : World} {v : Value} {w' : World} (h : Back N0 w0 d G w KT v w') : v = .bool true ∧ Below N0 w0 w' := by
 obtain ⟨G', H', dv, hk, _, h3, h4, _⟩ := h
 have hk : dv = .bool true := hk
 subst hk
 exact ⟨by cases (h4 : VP ..); rfl, h3.below⟩
theorem fits_nil {G : Gh} {w : World} : Fits G w [] (List.toArray []) := ⟨rfl, fun j c v hc => by simp at hc⟩
theorem fits_cons {G : Gh} {w : World} {x : DV} {v : Value} {args : List DV} {vs : List Value} (h : VP G w x v) (k : Fits G w args vs.toArray) : Fits G w (x :: args) (v :: vs).toArray := by
 refine ⟨by have := k.1; simp at this ⊢; exact this, fun j c u hc hv => ?_⟩
 cases j with
 | zero => simp at hc hv; subst hc hv; exact h
 | succ j => exact k.2 j c u (by simpa using hc) (by simpa using hv)
end Go.Ab.En
namespace Go
open Go.Conc
theorem returnsInLeavingWide_of_calls {a : Assume} {C : Checked} {os : Os} {f : FuncId} {r : Reach} {Pre : World → Array Value → Prop} {Post : World → Array Value → Value → World → Prop}
  (own : ownKnob C.prog.godebug = none) (started : os.Started) (noInit : C.prog.inits.idxOf? f = none)
  (witness : ∃ (w : World) (tape : Tape) (i : Input), w.os = os ∧ (w.forCall tape i).Shaped C.prog ∧ i.vars = [] ∧ Input.okWide C.prog (w.forCall tape i) r w.heap.size f i ∧ Pre (w.forCall tape i).memory i.args ∧
   a.holds C.prog (lone (Frame.enter C.prog f i.args .normal) [] (w.forCall tape i)))
  (contract : ∀ (w : World) (tape : Tape) (i : Input), w.os = os → (w.forCall tape i).ShapedOpen C.prog → i.vars = [] → Input.okWide C.prog (w.forCall tape i) r w.heap.size f i → Pre (w.forCall tape i).memory i.args →
   a.holds C.prog (lone (Frame.enter C.prog f i.args .normal) [] (w.forCall tape i)) →
   Calls C.prog f i.args (w.forCall tape i) fun
    | .returned v, w' => Post (w.forCall tape i).blind i.args v w'.blind
    | _, _ => False) :
  ReturnsInLeavingWide a C os f r Pre Post := fun enter => by
 obtain ⟨w0, t0, i0, a1, a2, a3, a4, a5, a6⟩ := witness
 refine ⟨enter, own, started, ⟨w0, t0, i0, a1, a2, a3, a4, a5, a6, trivial⟩, fun w tape i h => ?_⟩
 obtain ⟨n, v, w', fr, hn, hend, hp⟩ := (contract w tape i h.1 h.2.1 h.2.2.1 h.2.2.2.1 h.2.2.2.2.1 h.2.2.2.2.2.1).done_lone noInit
 have ha := alone_of_lone (w' := w') hn
 exact ⟨n + 1, v, w', hend, (clean_of_lone hn).2, roomy_placeholder .., hp, ⟨n, _, hn, step_of_runs hn hend, ⟨ha.2.1, ⟨fun g hg => by simp [lone] at hg, rfl⟩, ha.2.2⟩⟩, fun _ _ _ => trivial⟩
section
variable {H : Type} {enc : TypeId × Value → H}
theorem returnsInLeavingWide_of_change_and {a : Assume} {C : Checked} {os : Os} {f : FuncId} {fn : Func} {s : ChangeSpec} {conds : List PathCond} {apart fresh handsOn again : Bool} {X : World → Array Value → Prop}
  (hX : ∀ (w w' : World) (args : Array Value), w.heap = w'.heap → X w args → X w' args)
  (own : ownKnob C.prog.godebug = none) (started : os.Started) (noInit : C.prog.inits.idxOf? f = none) (hfn : C.prog.funcs[f]? = some fn)
  (witness : ∃ (w : World) (tape : Tape) (i : Input), w.os = os ∧ (w.forCall tape i).Shaped C.prog ∧ i.vars = [] ∧ Input.okWide C.prog (w.forCall tape i) .any w.heap.size f i ∧
   ((s.pre enc C.prog fn conds apart (w.forCall tape i).memory i.args ∧ X (w.forCall tape i).memory i.args) ∧ sizedMet enc C.prog fn (OpenSpec.ofChange s) apart (w.forCall tape i).memory i.args) ∧ a.holds C.prog (lone (Frame.enter C.prog f i.args .normal) [] (w.forCall tape i)))
  (contract : ∀ (W : World) (base : Nat) (args : Array Value) (ds gs : List (DataW H)) (before : List MemPlace),
   (∀ (j : Nat) t v, fn.params[j]? = some t → args[j]? = some v → Value.okWide C.prog W .any base t v) →
   DataW.Whole enc C.prog fn.params.toList s.vars apart W args.toList ds gs before →
   conds.all (PathCond.test C.prog ⟨fn.params.toList, ds, s.plain.varTypes C.prog, gs⟩) = true →
   (DataW.weightsEach C.prog (fn.params.toList ++ s.plain.varTypes C.prog) (ds ++ gs)).all (· ≤ reachBytes) = true → X W args →
   a.holds C.prog (lone (Frame.enter C.prog f args .normal) [] W) →
   Calls C.prog f args W fun e W' => ∃ v, e = .returned v ∧ s.post enc C.prog fn apart fresh handsOn again W args v W') :
  ReturnsInLeavingWide a C os f .any (fun w args => (s.pre enc C.prog fn conds apart w args ∧ X w args) ∧ sizedMet enc C.prog fn (OpenSpec.ofChange s) apart w args) (s.post enc C.prog fn apart fresh handsOn again) := by
 refine returnsInLeavingWide_of_calls own started noInit witness ?_
 intro w tape i _ _ _ hok hpre hholds
 obtain ⟨_, _, _, fn', hfn', _, _, _, _, hval⟩ := hok
 have e : fn' = fn := Option.some.inj (hfn'.symm.trans hfn)
 subst e
 obtain ⟨⟨⟨ds, gs, before, hw, hc⟩, hx⟩, hz⟩ := hpre
 have hw' := DataW.Whole.of_heap (w' := w.forCall tape i) (by rfl) hw
 refine (contract (w.forCall tape i) w.heap.size i.args ds gs before hval hw' hc (hz.weights hw) (hX _ _ _ (by rfl) hx) hholds).mono fun e W' ⟨v, he, hp⟩ => ?_
 subst he
 exact ChangeSpec.post_blind hp
end
theorem Claim7.holds_tied_goes_at (Lk : Looks) {p : Pinned} {s : OpenSpec} {c : OpenClaim} (kinds : List LaidKind) (tests : Bool) (har : Bool × String) (lk : Bool)
  (hc : c.holds p s) (hw : c.wfByText s = true) (htie : c.laidByTextAt Lk p kinds tests)
  (hst : c.start = .entering) (hnb : c.noBlocks = false ∧ c.again = false) (hm : p.checked.prog.mainIs = some (har.1, har.2.toList)) (hn : (!har.1 && har.2.isEmpty && !lk) = false)
  (hl : ∀ f fn, p.checked.prog.funcNamed c.func = some f → p.checked.prog.funcs[f]? = some fn → lk = p.checked.prog.looks [] ∧ ∀ (j : Nat) t, fn.params[j]? = some t → p.checked.prog.wantsStandIn t = false)
  (hg : true = c.goesBy p.checked.prog) :
  Claim7.holds p (.plain s) { stood := { row := c, standIns := [], harness := har, looks := lk }, kinds := [], alts := [], goes := true, laidByText := true, laidKinds := kinds, laidTests := tests, laidLooks := Lk } := by
 have h6 : ∀ r : OpenClaim, Claim7.isSixth { stood := { row := r, standIns := [], harness := har, looks := lk }, kinds := [] } = false := fun r => by simpa [Claim7.isSixth] using hn
 have h0 : Claim7.holdsOne p (.plain s) { stood := { row := c, standIns := [], harness := har, looks := lk }, kinds := [], alts := [], laidByText := true, laidKinds := kinds, laidTests := tests, laidLooks := Lk } :=
  Claim7.tied_new_at Lk kinds tests (Claim7.new_of_sixth hc har lk hst hnb hm (h6 c) hl) hw
 exact ⟨(Claim7.holdsOne_goes _ _ _ true).2 h0, (fun D hD => by cases hD), htie, (fun h => by cases h), hg⟩
end Go
namespace Go.Proofs.YtoebbafmopdfbaaGreatDoor
open Go.ChangeShapes Go.WideShapes Go.ChangeAt Go.RowKit Go.ChangeMaps Go.Ab Go.Ab.En
theorem Tryz.own : ownKnob Tryz.prog.godebug = none := by kernel_rfl
end Go.Proofs.YtoebbafmopdfbaaGreatDoor
namespace Go.Proofs.YtoebbafmopdfbaaGreatDoor
open Go.ChangeShapes Go.WideShapes Go.ChangeAt Go.RowKit Go.ChangeMaps Go.Ab Go.Ab.En
theorem Tryz.laidOut : laidOutB Tryz.prog = true := by kernel_rfl
set_option maxRecDepth 100000 in
theorem has_spot {W : World} {base : Nat} {a : Addr} {len cap : Nat} (h : Value.okWide Tryz.prog W .any base 36 (.slice (some a) len cap)) : a.spot = none := by
 simp only [Value.okWide, Tryz.underlying36, Cell.okWide, Cell.ok] at h
 exact h.2.2.2.1
theorem cells5 : Tryz.prog.cellsOf 5 = 1 := by kernel_rfl
set_option maxRecDepth 100000 in
theorem open_u8s {H : Type} {enc : TypeId × Value → H} {W : World} {base : Nat} {v : Value} {d : DataW H} {p : List MemPlace} (hval : Value.okWide Tryz.prog W .any base 36 v) (hd : DataW.Trod enc Tryz.prog W 0 (fun _ => true) true 36 v d p) :
  ∃ l : List Int, VP (G0 W) W (.sl false 1 (l.map (.int .u8))) v ∧ (∀ k ∈ l, 0 ≤ k ∧ k < 256) ∧ l.length ≤ maxLen := by
 obtain ⟨a0, len, cap, rfl⟩ := okWide_slice Tryz.underlying36 hval
 obtain ⟨fuel, hf⟩ := hd
 rcases open_ints Tryz.underlying36 Tryz.underlying5 cells5 hf with ⟨hcs, hx⟩ | ⟨a, len', cap', zs, hcs, _, hl, hm, hz, hx, hcell, hwz⟩
 ·simp [Value.cells] at hcs
  obtain ⟨rfl, rfl, rfl⟩ := hcs
  exact ⟨[], .sl0, by simp, by simp⟩
 ·simp [Value.cells] at hcs
  obtain ⟨rfl, rfl, rfl⟩ := hcs
  have hsp := has_spot hval
  obtain ⟨bl, off, spot⟩ := a
  simp only at hsp
  subst hsp
  simp only [if_true] at hz
  refine ⟨zs.take len, .sl (fun i _ => .int .u8 (zs.getD i 0)) (by simp; omega) hl hm (fun i x hx => ?_) (fun i j x c hx hc => ?_) (fun i j x c hx hc => ?_), fun k hk => ?_, by simp; omega⟩
  ·rw [List.getElem?_map] at hx
   obtain ⟨s, _, rfl⟩ := Option.map_eq_some_iff.1 hx
   exact ⟨rfl, rfl⟩
  ·have hi : i < len ∧ i < zs.length := by
    have := (List.getElem?_eq_some_iff.1 hx).1
    simp at this
    omega
   rw [List.getElem?_map] at hx
   obtain ⟨s, _, rfl⟩ := Option.map_eq_some_iff.1 hx
   have hj : j = 0 := by
    cases j with
    | zero => rfl
    | succ j => simp [DV.cells] at hc
   subst hj
   have h := hcell i hi.2
   have ha : (⟨bl, off, none⟩ : Addr).add i = ⟨bl, off + i, none⟩ := by
    unfold Addr.add
    split <;> simp_all
   rw [ha] at h
   have hb : bl < W.heap.size := World.block_lt_of_cell? W _ h
   refine ⟨.inl (by simp [G0, hb]), ?_⟩
   simpa using h
  ·rw [List.getElem?_map] at hx
   obtain ⟨s, hs, rfl⟩ := Option.map_eq_some_iff.1 hx
   have hj : j = 0 := by
    cases j with
    | zero => rfl
    | succ j => simp [DV.cells] at hc
   subst hj
   simp only [DV.cells, List.getElem?_cons_zero, Option.some.injEq] at hc
   subst hc
   rw [List.getElem?_take] at hs
   split at hs
   ·have : zs.getD i 0 = s := by simp [List.getD, hs]
    rw [this]
    exact .int _ _
   ·cases hs
  ·have := hwz k (List.mem_of_mem_take hk)
   simp [Lit.wf, IntKind.min, IntKind.max, IntKind.signed, IntKind.bits] at this
   omega
def laidL : List (String × DataW Unit) := Rows.dealOwnRow.laid
set_option maxRecDepth 100000 in
theorem door_met (os : Os) (args : Array Value) : laidMetH Tryz.prog laidL ((World.doorLaid Tryz.prog 400 os).forCall (fun _ _ => 0) ⟨#[], args, []⟩).memory :=
 laidMetH_of_parts3 (fuel := 8) (laidMet_of_run' 8 (by kernel_rfl) (by kernel_rfl)) (by kernel_rfl) (by kernel_rfl)
set_option maxRecDepth 100000 in
theorem law_lifted (os : Os) (started : os.Started) (H : Type) (enc : TypeId × Value → H) :
  ReturnsInLeavingWide {} Tryz.checked os 8 .any (fun w args => (Rows.dealOwnSpec.pre enc Tryz.prog Tryz.f8 [] false w args ∧ laidMetH Tryz.prog laidL w) ∧ sizedMet enc Tryz.prog Tryz.f8 (OpenSpec.ofChange Rows.dealOwnSpec) false w args)
   (Rows.dealOwnSpec.post enc Tryz.prog Tryz.f8 false true false false) := by
 refine returnsInLeavingWide_of_change_and (C := Tryz.checked) (X := fun w _ => laidMetH Tryz.prog laidL w) (fun _ _ _ hh h => h.of_heap hh) Tryz.own started (by kernel_rfl) Tryz.func8
  (ChangeSpec.witness_shaped (enc := enc) (C := Tryz.checked) (os := os) (X := fun w _ => laidMetH Tryz.prog laidL w) false (World.doorLaid Tryz.prog 400 os) #[.slice none 0 0, .int .u8 0] 8 rfl (World.shaped_of_RefB (by kernel_rfl) (by kernel_rfl)) (by kernel_rfl) (by kernel_rfl) (by kernel_rfl) (door_met os _)) ?_
 intro W base args ds gs before hval0 hW _ _ _ _
 have hval : ∀ (j : Nat) t v, Tryz.f8.params[j]? = some t → args[j]? = some v → Value.okWide Tryz.prog W .any base t v := hval0
 have hW' := hW
 obtain ⟨p, q, hA0, hV, rfl, hfz, hnd⟩ := hW
 have hA : DataW.TrodAll enc Tryz.prog W 0 (fun _ => true) true Tryz.f8.params.toList args.toList ds p := hA0
 rw [Tryz.params8] at hA hval
 obtain ⟨v0, v1, d0, d1, p0, p1, rfl, rfl, rfl, h0, h1⟩ := trodAll_two hA
 obtain ⟨rfl, rfl⟩ := trodVars_none hV
 obtain ⟨a0, hks, r0, hkl⟩ := open_u8s (hval 0 36 v0 rfl rfl) h0
 obtain ⟨a1, rfl, rfl, rfl, w1⟩ := open_int Tryz.underlying5 (hval 1 5 v1 rfl rfl) h1
 clear hA0 hval0
 simp only [List.append_nil] at hW'
 have r1 : 0 ≤ a1 ∧ a1 < 256 := by
  simp [Lit.wf, IntKind.min, IntKind.max, IntKind.signed, IntKind.bits] at w1
  omega
 refine (law8 (d := 0) a0 a1 r0 r1.1 r1.2 (wrel0 W) (fits_cons hks (fits_cons (.int _ _) fits_nil))).mono fun e W' ⟨v, he, hb⟩ => ?_
 subst he
 obtain ⟨rfl, hbl⟩ := back_true hb
 have k0 := Below.trod Tryz.laidOut (by kernel_rfl) (of_decide_eq_true (by kernel_rfl)) h0 hbl fun x hx => by simpa using hW'.lt x (by simpa using hx)
 exact ⟨_, rfl, _, _, _, [], _, [], hW', trodAll_mk1 (shut_bool Tryz.underlying4 _), trodAll_mk2 k0 (shut_int Tryz.underlying5 w1), rfl, hbl.frame _, fun h => by cases h⟩
set_option maxHeartbeats 8000000 in
theorem law_closed : joinedFacts Tryz.pinned.checked.prog 8 Tryz.f8 Rows.dealOwnSpec Rows.dealOwnRow = true := by
 unfold joinedFacts
 repeat rw [Bool.and_eq_true]
 exact ⟨⟨⟨⟨⟨⟨⟨⟨⟨⟨⟨⟨⟨⟨⟨⟨⟨⟨⟨⟨⟨⟨⟨⟨⟨⟨⟨⟨⟨⟨⟨(by as_aux_lemma => kernel_rfl), (by as_aux_lemma => kernel_rfl)⟩, (by as_aux_lemma => kernel_rfl)⟩, (by as_aux_lemma => kernel_rfl)⟩, (by as_aux_lemma => kernel_rfl)⟩, (by as_aux_lemma => kernel_rfl)⟩, (by as_aux_lemma => kernel_rfl)⟩, (by as_aux_lemma => kernel_rfl)⟩, (by as_aux_lemma => kernel_rfl)⟩, (by as_aux_lemma => kernel_rfl)⟩, (by as_aux_lemma => kernel_rfl)⟩, (by as_aux_lemma => kernel_rfl)⟩, (by as_aux_lemma => kernel_rfl)⟩, (by as_aux_lemma => kernel_rfl)⟩, (by as_aux_lemma => kernel_rfl)⟩, (by as_aux_lemma => kernel_rfl)⟩, (by as_aux_lemma => kernel_rfl)⟩, (by as_aux_lemma => kernel_rfl)⟩, (by as_aux_lemma => kernel_rfl)⟩, (by as_aux_lemma => kernel_rfl)⟩, (by as_aux_lemma => kernel_rfl)⟩, (by as_aux_lemma => kernel_rfl)⟩, (by as_aux_lemma => kernel_rfl)⟩, (by as_aux_lemma => kernel_rfl)⟩, (by as_aux_lemma => kernel_rfl)⟩, (by as_aux_lemma => kernel_rfl)⟩, (by as_aux_lemma => kernel_rfl)⟩, (by as_aux_lemma => kernel_rfl)⟩, (by as_aux_lemma => kernel_rfl)⟩, (by as_aux_lemma => kernel_rfl)⟩, (by as_aux_lemma => kernel_rfl)⟩, (by as_aux_lemma => kernel_rfl)⟩
theorem law_name : Tryz.pinned.checked.prog.funcNamed Rows.dealOwnRow.func = some 8 := by kernel_rfl
theorem law_row : Rows.DealOwnSaid :=
 OpenClaim.holds_of_wide_leaving 8 Tryz.f8 rfl rfl rfl rfl rfl rfl rfl ⟨rfl, rfl, rfl, rfl, rfl⟩ rfl rfl rfl rfl rfl law_name Tryz.func8 law_closed
  (of_decide_eq_true (by as_aux_lemma => kernel_rfl)) (by as_aux_lemma => unfold Func.isWrapper; first | (rw [if_pos (by decide +kernel)]; kernel_rfl) | (rw [if_neg (by decide +kernel)]; exact ⟨rfl, rfl⟩))
  (fun os started H enc _ => law_lifted os started H enc)
theorem law_wf : Rows.dealOwnRow.wfByText (OpenSpec.ofChange Rows.dealOwnSpec) = true := by kernel_rfl
theorem seat_main : Tryz.pinned.checked.prog.mainIs = some (true, "ec0cc9e44642b7e1ad5b03d42a67a178756026aceaf2b4203c9876cd9d1f2855".toList) := by kernel_rfl
theorem seat_looks : true = Tryz.pinned.checked.prog.looks [] := by kernel_rfl
theorem law_goes : true = Rows.dealOwnRow.goesBy Tryz.pinned.checked.prog := by kernel_rfl
theorem wants5 : Tryz.pinned.checked.prog.wantsStandIn 5 = false := by kernel_rfl
theorem wants4 : Tryz.pinned.checked.prog.wantsStandIn 36 = false := by kernel_rfl
theorem dealOwn_holds : Rows.DealOwnCardSaid :=
 Claim7.holds_tied_goes_at .later [.data, .data, .data] true (true, "ec0cc9e44642b7e1ad5b03d42a67a178756026aceaf2b4203c9876cd9d1f2855") true
  law_row law_wf dealOwn_row_tie rfl ⟨rfl, rfl⟩ seat_main rfl
  (fun f fn hf hfn => by
   obtain rfl : f = 8 := Option.some.inj (law_name.symm.trans hf) |>.symm
   obtain rfl : fn = Tryz.f8 := (Option.some.inj (Tryz.func8.symm.trans hfn)).symm
   refine ⟨seat_looks, fun j t ht => ?_⟩
   rw [Tryz.params8] at ht
   have h3 : t = 5 ∨ t = 36 := by
    match j, ht with
    | 0, ht => right; simpa using ht.symm
    | 1, ht => left; simpa using ht.symm
    | j + 2, ht => simp at ht
   rcases h3 with rfl | rfl
   ·exact wants5
   ·exact wants4)
  law_goes
#print axioms dealOwn_holds
end Go.Proofs.YtoebbafmopdfbaaGreatDoor
