/- A part of the proofs that a law function returns true at every input; it has no condition of its own. -/
import Derived.Test.YtefaplodmbdhlaaRows
import Derived.ProofKit
import Derived.SliceStrings
import Derived.Carry
import Derived.Test.YtefaplodmbdhlaaOrU
set_option linter.unusedSimpArgs false
set_option linter.unusedVariables false
/- OrZ0: From the walks to the statements: what all of them want. -/
namespace Go.Ab.Or
open Go Go.Conc Go.RowKit Go.Ab
def G0 (W : World) : Gh := ⟨fun b => if b < W.heap.size then .imm else .no, fun _ => none, fun _ _ _ => none⟩
theorem wrel0 (W : World) : WRel W.heap.size W (G0 W) W [] := ⟨Below.refl _ _, Nat.le_refl _, fun b hb => .inl (by simp [G0, hb]), fun b hb => by simp [G0]; omega, by simp, fun _ _ => rfl⟩
theorem vp_string {G : Gh} {w : World} (s : ByteArray) : VP G w (.str s.data.toList) (.string s) := by
  have : s = ⟨s.data.toList.toArray⟩ := by cases s; simp
  conv => rhs; rw [this]
  exact .str _
theorem back_true {N0 : Nat} {w0 : World} {d : Nat} {G : Gh} {w : World} {v : Value} {w' : World} (h : Back N0 w0 d G w KT v w') : v = .bool true ∧ Below N0 w0 w' := by
  obtain ⟨G', H', dv, hk, _, h3, h4, _⟩ := h
  have hk : dv = .bool true := hk
  subst hk
  exact ⟨by cases (h4 : VP ..); rfl, h3.below⟩
theorem fits_nil {G : Gh} {w : World} : Fits G w [] (List.toArray []) := ⟨rfl, fun j c v hc => by simp at hc⟩
theorem fits_cons {G : Gh} {w : World} {x : DV} {v : Value} {args : List DV} {vs : List Value} (h : VP G w x v) (k : Fits G w args vs.toArray) : Fits G w (x :: args) (v :: vs).toArray := by
  refine ⟨by have := k.1; simp at this ⊢; exact this, fun j c u hc hv => ?_⟩
  cases j with
  | zero => simp at hc hv; subst hc hv; exact h
  | succ j => exact k.2 j c u (by simpa using hc) (by simpa using hv)
end Go.Ab.Or
namespace Go.Proofs.Ytefaplodmbdhlaa
open Go.ChangeShapes Go.WideShapes Go.ChangeAt Go.RowKit Go.ChangeMaps Go.Ab Go.Ab.Or
theorem Try.own : ownKnob Try.prog.godebug = none := by kernel_rfl
theorem Try.laidOut : laidOutB Try.prog = true := by kernel_rfl
end Go.Proofs.Ytefaplodmbdhlaa
