/- The law function ShelfPlays returns true at every input, and each argument reads behind the call as it did; no condition. -/
import Derived.Test.YtcljbddnnnbihaaShM5
set_option linter.unusedSimpArgs false
set_option linter.unusedVariables false
/- ShZ3: ShelfPlays: the statement. -/
namespace Go.Proofs.Ytcljbddnnnbihaa
open Go.ChangeShapes Go.WideShapes Go.ChangeAt Go.RowKit Go.ChangeMaps Go.Ab Go.Ab.Sh
def stepOf : List Value → Stp
  | [.int _ a, .int _ b, .int _ c, .string x, .string y, .string z] => ⟨a, b, c, x.data.toList, y.data.toList, z.data.toList⟩
  | _ => ⟨0, 0, 0, [], [], []⟩
theorem cells?_six {w : World} {bl off : Nat} {cs : List Value} (h : w.cells? 0 ⟨bl, off, none⟩ 6 = some cs) : ∃ c0 c1 c2 c3 c4 c5, cs = [c0, c1, c2, c3, c4, c5] ∧ w.cell? ⟨bl, off, none⟩ = some c0 ∧ w.cell? ⟨bl, off + 1, none⟩ = some c1 ∧ w.cell? ⟨bl, off + 2, none⟩ = some c2 ∧
    w.cell? ⟨bl, off + 3, none⟩ = some c3 ∧ w.cell? ⟨bl, off + 4, none⟩ = some c4 ∧ w.cell? ⟨bl, off + 5, none⟩ = some c5 := by
  unfold World.cells? at h
  rw [if_pos (Nat.zero_le _), show List.range 6 = [0, 1, 2, 3, 4, 5] from rfl] at h
  simp only [List.mapM_cons, List.mapM_nil, add_none, Option.bind_eq_bind, Option.bind_eq_some_iff, Option.pure_def, Option.some.injEq] at h
  obtain ⟨c0, h0, l1, ⟨c1, h1, l2, ⟨c2, h2, l3, ⟨c3, h3, l4, ⟨c4, h4, l5, ⟨c5, h5, l6, rfl, rfl⟩, rfl⟩, rfl⟩, rfl⟩, rfl⟩, rfl⟩ := h
  exact ⟨c0, c1, c2, c3, c4, c5, rfl, h0, h1, h2, h3, h4, h5⟩
set_option maxRecDepth 100000 in
theorem step_cells {H : Type} {enc : TypeId × Value → H} {w : World} {base : Nat} {sp : Nat → Bool} {held : Bool} {fuel : Nat} {c0 c1 c2 c3 c4 c5 : Value} {x : DataW H × List MemPlace} (h : DataW.trod enc Try.prog w base sp held fuel 31 [c0, c1, c2, c3, c4, c5] = some x) :
    ∃ (a b c : Int) (s t u : ByteArray), c0 = .int .i64 a ∧ c1 = .int .i64 b ∧ c2 = .int .i64 c ∧ c3 = .string s ∧ c4 = .string t ∧ c5 = .string u := by
  obtain ⟨xs, n, _, rfl, hl, hlen, hf⟩ := DataW.trod_struct Try.underlying31 h
  match xs, hlen with
  | [y0, y1, y2, y3, y4, y5], _ =>
    have f0 := hf 0 _ rfl
    have f1 := hf 1 _ rfl
    have f2 := hf 2 _ rfl
    have f3 := hf 3 _ rfl
    have f4 := hf 4 _ rfl
    have f5 := hf 5 _ rfl
    have q3 : Try.prog.cellsOf 3 = 1 := cn3
    have q9 : Try.prog.cellsOf 9 = 1 := cn9
    simp only [q3, q9, List.drop_zero, List.drop_succ_cons, List.take_succ_cons, List.take_zero, List.getElem?_cons_zero, List.getElem?_cons_succ] at f0 f1 f2 f3 f4 f5
    obtain ⟨a, h0, _⟩ := DataW.trod_int Try.underlying3 f0
    obtain ⟨b, h1, _⟩ := DataW.trod_int Try.underlying3 f1
    obtain ⟨c, h2, _⟩ := DataW.trod_int Try.underlying3 f2
    obtain ⟨s, h3, _⟩ := DataW.trod_string Try.underlying9 f3
    obtain ⟨t, h4, _⟩ := DataW.trod_string Try.underlying9 f4
    obtain ⟨u, h5, _⟩ := DataW.trod_string Try.underlying9 f5
    exact ⟨a, b, c, s, t, u, List.head_eq_of_cons_eq h0, List.head_eq_of_cons_eq h1, List.head_eq_of_cons_eq h2, List.head_eq_of_cons_eq h3, List.head_eq_of_cons_eq h4, List.head_eq_of_cons_eq h5⟩
set_option maxRecDepth 100000 in
theorem has_spot22 {W : World} {base : Nat} {a : Addr} {len cap : Nat} (h : Value.okWide Try.prog W .any base 22 (.slice (some a) len cap)) : a.spot = none := by
  simp only [Value.okWide, Try.underlying22, Cell.okWide, Cell.ok] at h
  exact h.2.2.2.1
set_option maxRecDepth 100000 in
theorem open_steps {H : Type} {enc : TypeId × Value → H} {W : World} {base : Nat} {v : Value} {d : DataW H} {p : List MemPlace} (hval : Value.okWide Try.prog W .any base 22 v) (hd : DataW.Trod enc Try.prog W 0 (fun _ => true) true 22 v d p) :
    ∃ l : List Stp, VP (G0 W) W (.sl false 6 (l.map stepD)) v ∧ l.length ≤ 9223372036854775807 := by
  obtain ⟨a0, len, cap, rfl⟩ := okWide_slice Try.underlying22 hval
  obtain ⟨fuel, hf⟩ := hd
  rcases DataW.trod_slice Try.underlying22 hf with ⟨hcs, hx⟩ | ⟨a, len', cap', elems, rest, n, _, hcs, hx, hb, hl, hm, hlen, hel, _, _⟩
  · simp [Value.cells] at hcs
    obtain ⟨rfl, rfl, rfl⟩ := hcs
    exact ⟨[], .sl0, by simp⟩
  · simp [Value.cells] at hcs
    obtain ⟨rfl, rfl, rfl⟩ := hcs
    have hsp := has_spot22 hval
    obtain ⟨bl, off, spot⟩ := a
    simp only at hsp
    subst hsp
    have q31 : Try.prog.cellsOf 31 = 6 := cn31
    rw [q31] at hel
    let cell : Nat → Nat → Value := fun i j => (W.cell? ⟨bl, off + i * 6 + j, none⟩).getD (.bool false)
    have hstep : ∀ i, i < len → ∃ (a b c : Int) (s t u : ByteArray), [cell i 0, cell i 1, cell i 2, cell i 3, cell i 4, cell i 5] = [.int .i64 a, .int .i64 b, .int .i64 c, .string s, .string t, .string u] ∧ ∀ j, j < 6 → W.cell? ⟨bl, off + i * 6 + j, none⟩ = some (cell i j) := by
      intro i hi
      have h := hel i hi
      rw [List.getElem?_eq_getElem (by omega), add_none] at h
      obtain ⟨cs, h1, h2⟩ := Option.bind_eq_some_iff.1 h
      obtain ⟨c0, c1, c2, c3, c4, c5, rfl, k0, k1, k2, k3, k4, k5⟩ := cells?_six h1
      obtain ⟨a, b, c, s, t, u, rfl, rfl, rfl, rfl, rfl, rfl⟩ := step_cells h2
      refine ⟨a, b, c, s, t, u, ?_, fun j hj => ?_⟩
      · simp only [cell, Nat.add_zero, k0, k1, k2, k3, k4, k5, Option.getD_some]
      · match j, hj with
        | 0, _ => simp only [cell, Nat.add_zero, k0, Option.getD_some]
        | 1, _ => simp only [cell, k1, Option.getD_some]
        | 2, _ => simp only [cell, k2, Option.getD_some]
        | 3, _ => simp only [cell, k3, Option.getD_some]
        | 4, _ => simp only [cell, k4, Option.getD_some]
        | 5, _ => simp only [cell, k5, Option.getD_some]
    refine ⟨(List.range len).map fun i => stepOf [cell i 0, cell i 1, cell i 2, cell i 3, cell i 4, cell i 5], .sl cell (by simp) hl hm (fun i x hx => ?_) (fun i j x c hx hc => ?_) (fun i j x c hx hc => ?_), by simp; unfold maxLen at hm; omega⟩
    · obtain ⟨s, _, rfl⟩ : ∃ s ∈ (List.range len).map (fun i => stepOf [cell i 0, cell i 1, cell i 2, cell i 3, cell i 4, cell i 5]), stepD s = x := List.mem_map.1 (List.mem_of_getElem? hx)
      exact ⟨rfl, rfl⟩
    · rw [List.getElem?_map, List.getElem?_map] at hx
      obtain ⟨y, hy, rfl⟩ := Option.map_eq_some_iff.1 hx
      obtain ⟨i', hi', rfl⟩ := Option.map_eq_some_iff.1 hy
      obtain ⟨hlt, he⟩ := List.getElem?_eq_some_iff.1 hi'
      simp at hlt he
      subst he
      have hj : j < 6 := by
        have := (List.getElem?_eq_some_iff.1 hc).1
        simpa [stepD, DV.cells] using this
      obtain ⟨_, _, _, _, _, _, _, h2⟩ := hstep i hlt
      have h3 := h2 j hj
      have hb : bl < W.heap.size := World.block_lt_of_cell? W _ h3
      exact ⟨.inl (by simp [G0, hb]), h3⟩
    · rw [List.getElem?_map, List.getElem?_map] at hx
      obtain ⟨y, hy, rfl⟩ := Option.map_eq_some_iff.1 hx
      obtain ⟨i', hi', rfl⟩ := Option.map_eq_some_iff.1 hy
      obtain ⟨hlt, he⟩ := List.getElem?_eq_some_iff.1 hi'
      simp at hlt he
      subst he
      have hj : j < 6 := by
        have := (List.getElem?_eq_some_iff.1 hc).1
        simpa [stepD, DV.cells] using this
      obtain ⟨a, b, c', s, t, u, h1, _⟩ := hstep i hlt
      rw [h1] at hc
      simp only [List.cons.injEq, and_true] at h1
      obtain ⟨e0, e1, e2, e3, e4, e5⟩ := h1
      match j, hj with
      | 0, _ => cases hc; rw [e0]; exact .int _ _
      | 1, _ => cases hc; rw [e1]; exact .int _ _
      | 2, _ => cases hc; rw [e2]; exact .int _ _
      | 3, _ => cases hc; rw [e3]; exact vp_string _
      | 4, _ => cases hc; rw [e4]; exact vp_string _
      | 5, _ => cases hc; rw [e5]; exact vp_string _
set_option maxRecDepth 100000 in
theorem plays_lifted (os : Os) (started : os.Started) (H : Type) (enc : TypeId × Value → H) :
    ReturnsInHanded {} Try.checked os 3 .any (Rows.shelfPlaysSpec.pre6 enc Try.prog Try.f3 Rows.shelfPlaysRow.domain false) (Rows.shelfPlaysSpec.post enc Try.prog Try.f3 false true false false) := by
  refine returnsInHanded_of_change (C := Try.checked) Try.own started (by kernel_rfl) Try.func3
    (ChangeSpec.witness6 (enc := enc) (C := Try.checked) false ⟨#[], #[.int .i64 0, .slice none 0 0], []⟩ 8 (by kernel_rfl) (by kernel_rfl) (by kernel_rfl) (by kernel_rfl)) ?_
  intro W base args ds gs before hval0 hW hcnd _
  have hval : ∀ (j : Nat) t v, Try.f3.params[j]? = some t → args[j]? = some v → Value.okWide Try.prog W .any base t v := hval0
  have hW' := hW
  obtain ⟨p, q, hA0, hV, rfl, hfz, hnd⟩ := hW
  have hA : DataW.TrodAll enc Try.prog W 0 (fun _ => true) true Try.f3.params.toList args.toList ds p := hA0
  rw [Try.params3] at hA hval
  obtain ⟨v0, v1, d0, d1, p0, p1, rfl, rfl, rfl, h0, h1⟩ := trodAll_two hA
  obtain ⟨rfl, rfl⟩ := trodVars_none hV
  obtain ⟨a, rfl, rfl, rfl, wa⟩ := open_int Try.underlying3 (hval 0 3 v0 rfl rfl) h0
  obtain ⟨lb, hlb, hll⟩ := open_steps (hval 1 22 v1 rfl rfl) h1
  clear hA0 hval0
  simp only [List.append_nil] at hW'
  refine (law3 (d := 0) a lb hll (wrel0 W) (fits_cons (.int _ _) (fits_cons hlb fits_nil))).mono fun e W' ⟨v, he, hb⟩ => ?_
  subst he
  obtain ⟨rfl, hbl⟩ := back_true hb
  have hlt : ∀ x ∈ p1, x.block < W.heap.size := fun x hx => by simpa using hW'.lt x (by simpa using hx)
  have k1 := Below.trod Try.laidOut (by kernel_rfl) (of_decide_eq_true (by kernel_rfl)) h1 hbl hlt
  exact ⟨_, rfl, _, _, _, [], _, [], hW', trodAll_mk1 (shut_bool Try.underlying4 _), trodAll_mk2 (shut_int Try.underlying3 wa) k1, rfl, hbl.frame _, fun h => by cases h⟩
theorem plays_holds : Rows.ShelfPlaysSaid :=
  OpenClaim.holds_of_wide 3 Try.f3 rfl rfl rfl rfl rfl rfl rfl ⟨rfl, rfl, rfl, rfl, rfl⟩ rfl rfl rfl rfl rfl (by kernel_rfl) Try.func3 (by kernel_rfl)
    (of_decide_eq_true (by kernel_rfl)) (by unfold Func.isWrapper; first | (rw [if_pos (by decide +kernel)]; kernel_rfl) | (rw [if_neg (by decide +kernel)]; exact ⟨rfl, rfl⟩))
    (fun os started H enc _ => plays_lifted os started H enc)
end Go.Proofs.Ytcljbddnnnbihaa
