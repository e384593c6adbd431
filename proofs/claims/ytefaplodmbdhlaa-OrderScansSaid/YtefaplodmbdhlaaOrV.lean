/- A part of the proofs that a law function returns true at every input; it has no condition of its own. -/
import Derived.Test.YtefaplodmbdhlaaOrZ1
set_option linter.unusedSimpArgs false
set_option linter.unusedVariables false
/- OrV: OrderSees: the plain words. -/
namespace Go.Ab.Or
open Go Go.Conc Go.RowKit Go.Ab
set_option maxRecDepth 10000
/-- A deal of level 0 that writes one key. -/
def w1D (n : Int) (w : WR) : DC := ⟨0, n, 0, .sl false 5 (List.map .agg (List.map RD.cells [])), .sl false 3 (List.map wrD [w])⟩
def w1M (x : Int × WR) : MD := (w1D x.1 x.2, [], [x.2])
theorem w1DW (H : List HObj) (n : Int) (w : WR) : DW H (w1D n w) [] [w] := ⟨.inl rfl, rfl, by simp, by simp, by simp⟩
/-- A deal that reads. -/
def r1D (r : RD) : DC := ⟨0, 0, 0, .sl false 5 (List.map .agg (List.map RD.cells [r])), .sl false 3 (List.map wrD [])⟩
theorem r1DW (H : List HObj) (r : RD) (h : r.pairs.length < 4611686018427387904) : DW H (r1D r) [r] [] := ⟨.inl rfl, rfl, by simp, by simp, by simpa using h⟩
theorem wsum_w1 (l : List (Int × WR)) (m : List MD) : wsum (l.map w1M ++ m) = l.length + wsum m := by
  induction l with
  | nil => simp
  | cons x l ih => simp only [List.map_cons, List.cons_append, wsum, ih, List.length_cons, w1M, List.length_nil]; omega
theorem dealsV1 {H : List HObj} {l : List (Int × WR)} {r : RD} (hl : l.length < 1000) (hk : ∀ x ∈ l, x.2.key.length ≤ maxLen) (hr : r.pairs.length < 4611686018427387904) :
    DealsV H (.sl false 5 (l.map (fun x => .agg (w1D x.1 x.2).cells) ++ [.agg (r1D r).cells])) (l.map w1M ++ [(r1D r, [r], [])]) := by
  refine ⟨.inl ?_, ?_, by simp; omega, by rw [wsum_w1]; simp [wsum]; omega, ?_⟩
  · simp [w1M, Function.comp_def]
  · intro x hx
    rcases List.mem_append.1 hx with hx | hx
    · obtain ⟨y, _, rfl⟩ := List.mem_map.1 hx
      exact w1DW _ _ _
    · simp at hx; subst hx; exact r1DW _ _ hr
  · intro x hx
    rcases List.mem_append.1 hx with hx | hx
    · obtain ⟨y, hy, rfl⟩ := List.mem_map.1 hx
      simpa [w1M] using hk y hy
    · simp at hx; subst hx; simp
theorem expl_w1 (r : RD) : ∀ (l : List (Int × WR)) (F : Int → Option Files), explF F (l.map w1M ++ [(r1D r, [r], [])]) = decide (readF (seeF F (l.map w1M)) r = r.pairs)
  | [], F => by simp [explF, seeF]
  | x :: l, F => by
    simp only [List.map_cons, List.cons_append, explF, w1M, seeF, List.all_nil, Bool.true_and]
    exact expl_w1 r l _
theorem see_w1 (l : List (Int × WR)) (x : Int × WR) : ∀ F : Int → Option Files, seeF F ((l ++ [x]).map w1M) = updF (seeF F (l.map w1M)) 0 [x.2] := by
  induction l with
  | nil => intro F; rfl
  | cons y l ih => intro F; simp only [List.cons_append, List.map_cons, seeF, w1M]; exact ih _
/-- The files of level 0. -/
def f0 (l : List (Int × WR)) : Files := (seeF noF (l.map w1M) 0).getD []
theorem f0_snoc (l : List (Int × WR)) (x : Int × WR) : f0 (l ++ [x]) = putW (f0 l) x.2 := by
  simp only [f0, see_w1, updF, if_true, Option.getD_some, List.foldl_cons, List.foldl_nil]
theorem f0_some (l : List (Int × WR)) (h : l ≠ []) : seeF noF (l.map w1M) 0 = some (f0 l) := by
  have : l = l.dropLast ++ [l.getLast h] := (List.dropLast_concat_getLast h).symm
  rw [this, f0_snoc]
  simp only [see_w1, updF, if_true, List.foldl_cons, List.foldl_nil, f0]
theorem getF_set (k v : Str) (q : Str) : ∀ fs : Files, getF (setF k v fs) q = if q = k then some v else getF fs q
  | [] => by simp [setF, getF]
  | (x, u) :: r => by
    have ih := getF_set k v q r
    by_cases h : k = x
    · subst h
      by_cases e : q = k <;> simp [setF, getF, e]
    · simp only [setF, h, if_false, getF, ih]
      by_cases e : q = x
      · have : ¬ x = k := fun e => h e.symm
        subst e; simp [this]
      · simp [e]
theorem getF_none {k : Str} : ∀ {fs : Files}, k ∉ fs.map (·.1) → getF fs k = none
  | [], _ => rfl
  | (x, u) :: r, h => by
    simp only [List.map_cons, List.mem_cons, not_or] at h
    simp only [getF, h.1, if_false]
    exact getF_none h.2
theorem getF_del (k : Str) (q : Str) : ∀ fs : Files, (fs.map (·.1)).Nodup → getF (delF k fs) q = if q = k then none else getF fs q
  | [], _ => by simp [delF, getF]
  | (x, u) :: r, hn => by
    simp only [List.map_cons, List.nodup_cons] at hn
    have ih := getF_del k q r hn.2
    by_cases h : k = x
    · subst h
      by_cases e : q = k
      · subst e; simp only [delF, if_true]; exact getF_none hn.1
      · simp [delF, getF, e]
    · simp only [delF, h, if_false, getF, ih]
      by_cases e : q = x
      · have : ¬ x = k := fun e => h e.symm
        subst e; simp [this]
      · simp [e]
theorem getF_put {w : WR} {q : Str} {fs : Files} (hn : (fs.map (·.1)).Nodup) : getF (putW fs w) q = if q = w.key then (if w.del then none else some w.val) else getF fs q := by
  unfold putW
  split
  · rw [getF_del _ _ _ hn]
  · rw [getF_set]
theorem nodup_put {fs : Files} (w : WR) (h : (fs.map (·.1)).Nodup) : ((putW fs w).map (·.1)).Nodup := by
  unfold putW
  split
  · rw [keys_delF]; exact h.erase _
  · rw [keys_setF]
    split
    · exact h
    · rename_i hk
      rw [List.nodup_append]
      exact ⟨h, by simp, fun a ha b hb => by simp at hb; subst hb; intro e; subst e; exact hk ha⟩
theorem f0_fold : ∀ (l : List (Int × WR)) (F : Int → Option Files), ((seeF F (l.map w1M)) 0).getD [] = l.foldl (fun f x => putW f x.2) ((F 0).getD [])
  | [], F => rfl
  | x :: l, F => by
    simp only [List.map_cons, seeF, w1M, List.foldl_cons]
    rw [show (w1D x.1 x.2).lv = 0 from rfl]
    have := f0_fold l (updF F 0 [x.2])
    rw [this]
    simp [updF]
theorem nodup_fold : ∀ (l : List (Int × WR)) (fs : Files), (fs.map (·.1)).Nodup → ((l.foldl (fun f x => putW f x.2) fs).map (·.1)).Nodup
  | [], fs, h => h
  | x :: l, fs, h => nodup_fold l _ (nodup_put _ h)
theorem f0_good (l : List (Int × WR)) : ((f0 l).map (·.1)).Nodup := by
  unfold f0
  rw [f0_fold]
  exact nodup_fold l _ (by simp [noF])
end Go.Ab.Or
