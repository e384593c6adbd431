/- A part of the proofs that a law function returns true at every input; it has no condition of its own. -/
import Derived.Test.YtcljbddnnnbihaaRows
import Derived.ProofKit
import Derived.SliceStrings
import Derived.Carry
import Derived.Test.YtcljbddnnnbihaaShM
set_option linter.unusedSimpArgs false
set_option linter.unusedVariables false
/- ShZ0: From the walks to the statements: what all of them want. -/
namespace Go.Ab.Sh
open Go Go.Conc Go.RowKit Go.Ab
def G0 (W : World) : Gh := ⟨fun b => if b < W.heap.size then .imm else .no, fun _ => none, fun _ _ _ => none⟩
theorem wrel0 (W : World) : WRel W.heap.size W (G0 W) W [] := ⟨Below.refl _ _, Nat.le_refl _, fun b hb => .inl (by simp [G0, hb]), fun b hb => by simp [G0]; omega, by simp, fun _ _ => rfl⟩
theorem vp_string {G : Gh} {w : World} (s : ByteArray) : VP G w (.str s.data.toList) (.string s) := by
  have : s = ⟨s.data.toList.toArray⟩ := by cases s; simp
  conv => rhs; rw [this]
  exact .str _
theorem back_true {N0 : Nat} {w0 : World} {d : Nat} {G : Gh} {w : World} {v : Value} {w' : World} (h : Back N0 w0 d G w KT v w') : v = .bool true ∧ Below N0 w0 w' := by
  obtain ⟨G', H', dv, hk, _, h3, h4, _⟩ := h
  have hk : dv = .bool true := hk
  subst hk
  exact ⟨by cases (h4 : VP ..); rfl, h3.below⟩
theorem fits_nil {G : Gh} {w : World} : Fits G w [] (List.toArray []) := ⟨rfl, fun j c v hc => by simp at hc⟩
theorem fits_cons {G : Gh} {w : World} {x : DV} {v : Value} {args : List DV} {vs : List Value} (h : VP G w x v) (k : Fits G w args vs.toArray) : Fits G w (x :: args) (v :: vs).toArray := by
  refine ⟨by have := k.1; simp at this ⊢; exact this, fun j c u hc hv => ?_⟩
  cases j with
  | zero => simp at hc hv; subst hc hv; exact h
  | succ j => exact k.2 j c u (by simpa using hc) (by simpa using hv)
end Go.Ab.Sh
namespace Go.Proofs.Ytcljbddnnnbihaa
open Go.ChangeShapes Go.WideShapes Go.ChangeAt Go.RowKit Go.ChangeMaps Go.Ab Go.Ab.Sh
theorem Try.own : ownKnob Try.prog.godebug = none := by kernel_rfl
theorem Try.laidOut : laidOutB Try.prog = true := by kernel_rfl
set_option maxRecDepth 100000 in
theorem has_spot {W : World} {base : Nat} {a : Addr} {len cap : Nat} (h : Value.okWide Try.prog W .any base 45 (.slice (some a) len cap)) : a.spot = none := by
  simp only [Value.okWide, Try.underlying45, Cell.okWide, Cell.ok] at h
  exact h.2.2.2.1
theorem cells9 : Try.prog.cellsOf 9 = 1 := by kernel_rfl
set_option maxRecDepth 100000 in
/-- A slice of strings among the arguments. -/
theorem open_strs {H : Type} {enc : TypeId × Value → H} {W : World} {base : Nat} {v : Value} {d : DataW H} {p : List MemPlace} (hval : Value.okWide Try.prog W .any base 45 v) (hd : DataW.Trod enc Try.prog W 0 (fun _ => true) true 45 v d p) :
    ∃ l : List Str, VP (G0 W) W (.sl false 1 (l.map .str)) v := by
  obtain ⟨a0, len, cap, rfl⟩ := okWide_slice Try.underlying45 hval
  obtain ⟨fuel, hf⟩ := hd
  rcases open_strings Try.underlying45 Try.underlying9 cells9 hf with ⟨hcs, hx⟩ | ⟨a, len', cap', ss, hcs, _, hl, hm, hz, hx, hcell, hsz⟩
  · simp [Value.cells] at hcs
    obtain ⟨rfl, rfl, rfl⟩ := hcs
    exact ⟨[], .sl0⟩
  · simp [Value.cells] at hcs
    obtain ⟨rfl, rfl, rfl⟩ := hcs
    have hsp := has_spot hval
    obtain ⟨bl, off, spot⟩ := a
    simp only at hsp
    subst hsp
    simp only [if_true] at hz
    refine ⟨(ss.take len).map fun s => s.data.toList, .sl (fun i _ => .string (ss.getD i ByteArray.empty)) (by simp; omega) hl hm (fun i x hx => ?_) (fun i j x c hx hc => ?_) (fun i j x c hx hc => ?_)⟩
    · rw [List.getElem?_map] at hx
      obtain ⟨s, _, rfl⟩ := Option.map_eq_some_iff.1 hx
      exact ⟨rfl, rfl⟩
    · have hi : i < len ∧ i < ss.length := by
        have := (List.getElem?_eq_some_iff.1 hx).1
        simp at this
        omega
      rw [List.getElem?_map] at hx
      obtain ⟨s, _, rfl⟩ := Option.map_eq_some_iff.1 hx
      have hj : j = 0 := by
        cases j with
        | zero => rfl
        | succ j => simp [DV.cells] at hc
      subst hj
      have h := hcell i hi.2
      have ha : (⟨bl, off, none⟩ : Addr).add i = ⟨bl, off + i, none⟩ := by
        unfold Addr.add
        split <;> simp_all
      rw [ha] at h
      have hb : bl < W.heap.size := World.block_lt_of_cell? W _ h
      refine ⟨.inl (by simp [G0, hb]), ?_⟩
      simpa using h
    · rw [List.getElem?_map, List.getElem?_map] at hx
      obtain ⟨s, hs, rfl⟩ := Option.map_eq_some_iff.1 hx
      obtain ⟨s2, hs2, rfl⟩ := Option.map_eq_some_iff.1 hs
      have hj : j = 0 := by
        cases j with
        | zero => rfl
        | succ j => simp [DV.cells] at hc
      subst hj
      simp only [DV.cells, List.getElem?_cons_zero, Option.some.injEq] at hc
      subst hc
      rw [List.getElem?_take] at hs2
      split at hs2
      · have : ss.getD i ByteArray.empty = s2 := by simp [List.getD, hs2]
        rw [this]
        exact vp_string _
      · cases hs2
end Go.Proofs.Ytcljbddnnnbihaa
