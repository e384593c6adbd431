/- A part of the proofs that a law function returns true at every input; it has no condition of its own. -/
import Derived.ChangeSlices
import Derived.Test.YtefaplodmbdhlaaOrZ0
set_option linter.unusedSimpArgs false
set_option linter.unusedVariables false
/- OrZ1: OrderSees, OrderScans: a row of bytes among the arguments. -/
namespace Go.Proofs.Ytefaplodmbdhlaa
open Go.ChangeShapes Go.WideShapes Go.ChangeAt Go.RowKit Go.ChangeMaps Go.Ab Go.Ab.Or
set_option maxRecDepth 100000 in
theorem has_spot {W : World} {base : Nat} {a : Addr} {len cap : Nat} (h : Value.okWide Try.prog W .any base 22 (.slice (some a) len cap)) : a.spot = none := by
  simp only [Value.okWide, Try.underlying22, Cell.okWide, Cell.ok] at h
  exact h.2.2.2.1
theorem cells5 : Try.prog.cellsOf 5 = 1 := by kernel_rfl
set_option maxRecDepth 100000 in
/-- A slice of bytes among the arguments. -/
theorem open_u8s {H : Type} {enc : TypeId × Value → H} {W : World} {base : Nat} {v : Value} {d : DataW H} {p : List MemPlace} (hval : Value.okWide Try.prog W .any base 22 v) (hd : DataW.Trod enc Try.prog W 0 (fun _ => true) true 22 v d p) :
    ∃ l : List Int, VP (G0 W) W (.sl false 1 (l.map (.int .u8))) v ∧ (∀ k ∈ l, 0 ≤ k ∧ k < 256) ∧ l.length ≤ maxLen := by
  obtain ⟨a0, len, cap, rfl⟩ := okWide_slice Try.underlying22 hval
  obtain ⟨fuel, hf⟩ := hd
  rcases open_ints Try.underlying22 Try.underlying5 cells5 hf with ⟨hcs, hx⟩ | ⟨a, len', cap', zs, hcs, _, hl, hm, hz, hx, hcell, hwz⟩
  · simp [Value.cells] at hcs
    obtain ⟨rfl, rfl, rfl⟩ := hcs
    exact ⟨[], .sl0, by simp, by simp⟩
  · simp [Value.cells] at hcs
    obtain ⟨rfl, rfl, rfl⟩ := hcs
    have hsp := has_spot hval
    obtain ⟨bl, off, spot⟩ := a
    simp only at hsp
    subst hsp
    simp only [if_true] at hz
    refine ⟨zs.take len, .sl (fun i _ => .int .u8 (zs.getD i 0)) (by simp; omega) hl hm (fun i x hx => ?_) (fun i j x c hx hc => ?_) (fun i j x c hx hc => ?_), fun k hk => ?_, by simp; omega⟩
    · rw [List.getElem?_map] at hx
      obtain ⟨s, _, rfl⟩ := Option.map_eq_some_iff.1 hx
      exact ⟨rfl, rfl⟩
    · have hi : i < len ∧ i < zs.length := by
        have := (List.getElem?_eq_some_iff.1 hx).1
        simp at this
        omega
      rw [List.getElem?_map] at hx
      obtain ⟨s, _, rfl⟩ := Option.map_eq_some_iff.1 hx
      have hj : j = 0 := by
        cases j with
        | zero => rfl
        | succ j => simp [DV.cells] at hc
      subst hj
      have h := hcell i hi.2
      have ha : (⟨bl, off, none⟩ : Addr).add i = ⟨bl, off + i, none⟩ := by
        unfold Addr.add
        split <;> simp_all
      rw [ha] at h
      have hb : bl < W.heap.size := World.block_lt_of_cell? W _ h
      refine ⟨.inl (by simp [G0, hb]), ?_⟩
      simpa using h
    · rw [List.getElem?_map] at hx
      obtain ⟨s, hs, rfl⟩ := Option.map_eq_some_iff.1 hx
      have hj : j = 0 := by
        cases j with
        | zero => rfl
        | succ j => simp [DV.cells] at hc
      subst hj
      simp only [DV.cells, List.getElem?_cons_zero, Option.some.injEq] at hc
      subst hc
      rw [List.getElem?_take] at hs
      split at hs
      · have : zs.getD i 0 = s := by simp [List.getD, hs]
        rw [this]
        exact .int _ _
      · cases hs
    · have := hwz k (List.mem_of_mem_take hk)
      simp [Lit.wf, IntKind.min, IntKind.max, IntKind.signed, IntKind.bits] at this
      omega
end Go.Proofs.Ytefaplodmbdhlaa
