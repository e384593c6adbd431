/- A part of the proofs that a law function returns true at every input; it has no condition of its own. -/
import Derived.Sort.Walk0
import Derived.Test.YtefaplodmbdhlaaOrW
set_option linter.unusedSimpArgs false
set_option linter.unusedVariables false
/- OrX: OrderScans: the plain words. -/
namespace Go.Ab.Or
open Go Go.Conc Go.RowKit Go.Ab
set_option maxRecDepth 10000
def kC (k : Nat) : Str := [UInt8.ofNat (97 + k)]
theorem kC_inj {a b : Nat} (ha : a < 10) (hb : b < 10) (h : kC a = kC b) : a = b := by
  have : ∀ a, a < 10 → ∀ b, b < 10 → kC a = kC b → a = b := by decide +kernel
  exact this a ha b hb h
theorem inR_kC {lo hi k : Nat} (h1 : lo < 10) (h2 : hi < 10) (h3 : k < 10) : inR (kC lo) (kC hi) (kC k) = (decide (lo ≤ k) && decide (k < hi)) := by
  have : ∀ lo, lo < 10 → ∀ hi, hi < 10 → ∀ k, k < 10 → inR (kC lo) (kC hi) (kC k) = (decide (lo ≤ k) && decide (k < hi)) := by decide +kernel
  exact this lo h1 hi h2 k h3
def upTo (th : List Bool) (lo hi n : Nat) : List (Str × Str) := ((List.range n).filter fun k => th.getD k false && (decide (lo ≤ k) && decide (k < hi))).map fun k => (kC k, [118])
theorem upTo_succ (th : List Bool) (lo hi n : Nat) : upTo th lo hi (n + 1) = upTo th lo hi n ++ (if (th.getD n false && (decide (lo ≤ n) && decide (n < hi))) = true then [(kC n, [118])] else []) := by
  simp only [upTo, List.range_succ, List.filter_append, List.map_append]
  congr 1
  by_cases h : (th.getD n false && (decide (lo ≤ n) && decide (n < hi))) = true
  · rw [if_pos h, List.filter_cons_of_pos (by simpa using h)]; rfl
  · rw [if_neg h, List.filter_cons_of_neg (by simpa using h)]; rfl
theorem upTo_len (th : List Bool) (lo hi n : Nat) : (upTo th lo hi n).length ≤ n := by
  simp only [upTo, List.length_map]
  exact Nat.le_trans (List.length_filter_le _ _) (by simp)
/-- The files that there are. -/
structure There (fs : Files) (th : List Bool) : Prop where
  len : th.length = 10
  nd : (fs.map (·.1)).Nodup
  get : ∀ k, k < 10 → getF fs (kC k) = if th.getD k false = true then some [118] else none
  keys : ∀ x ∈ fs, ∃ k, k < 10 ∧ x.1 = kC k
theorem getF_isSome {k : Str} : ∀ {fs : Files}, (getF fs k).isSome = true ↔ k ∈ fs.map (·.1)
  | [] => by simp [getF]
  | (x, u) :: r => by
    have ih := getF_isSome (k := k) (fs := r)
    by_cases h : k = x
    · simp [getF, h]
    · simp only [getF, h, if_false, ih, List.map_cons, List.mem_cons, false_or]
theorem There.perm {fs : Files} {th : List Bool} (h : There fs th) : (fs.map (·.1)).Perm (((List.range 10).filter fun k => th.getD k false).map kC) := by
  refine (List.perm_ext_iff_of_nodup h.nd ?_).2 fun q => ?_
  · refine List.pairwise_map.2 (List.Pairwise.imp_of_mem (R := fun a b => a ≠ b) ?_ (List.Pairwise.filter _ List.nodup_range))
    intro a b ha hb hab e
    simp only [List.mem_filter, List.mem_range] at ha hb
    exact hab (kC_inj ha.1 hb.1 e)
  · simp only [List.mem_map, List.mem_filter, List.mem_range]
    constructor
    · rintro ⟨x, hx, rfl⟩
      obtain ⟨k, hk, e⟩ := h.keys x hx
      refine ⟨k, ⟨hk, ?_⟩, e.symm⟩
      have h1 := h.get k hk
      have h2 : (getF fs (kC k)).isSome = true := getF_isSome.2 (List.mem_map.2 ⟨x, hx, e⟩)
      rw [h1] at h2
      split at h2
      · assumption
      · cases h2
    · rintro ⟨k, ⟨hk, ht⟩, rfl⟩
      have h1 := h.get k hk
      rw [if_pos ht] at h1
      have h2 : (getF fs (kC k)).isSome = true := by rw [h1]; rfl
      exact List.mem_map.1 (getF_isSome.1 h2)
theorem sorted_kC : ((List.range 10).map kC).Pairwise (fun a b => leB a b = true) := by decide +kernel
theorem There.names {fs : Files} {th : List Bool} (h : There fs th) : namesF fs = ((List.range 10).filter fun k => th.getD k false).map kC := by
  unfold namesF
  rw [mergeSort_of_perm h.perm]
  refine List.mergeSort_of_pairwise ?_
  exact List.Pairwise.sublist (List.Sublist.map _ List.filter_sublist) sorted_kC
theorem There.pairs {fs : Files} {th : List Bool} {lo hi : Nat} (h : There fs th) (h1 : lo < 10) (h2 : hi < 10) : pairsF (some fs) (kC lo) (kC hi) = upTo th lo hi 10 := by
  simp only [pairsF, h.names, upTo, List.filter_map, List.map_map, List.filter_filter]
  have e1 : (List.range 10).filter (fun a => (inR (kC lo) (kC hi) ∘ kC) a && th.getD a false) = (List.range 10).filter (fun k => th.getD k false && (decide (lo ≤ k) && decide (k < hi))) := by
    refine List.filter_congr fun k hk => ?_
    rw [List.mem_range] at hk
    simp only [Function.comp, inR_kC h1 h2 hk, Bool.and_comm]
  rw [e1]
  refine List.map_congr_left fun k hk => ?_
  simp only [List.mem_filter, List.mem_range, Bool.and_eq_true] at hk
  simp only [Function.comp, h.get k hk.1, hk.2.1, if_true, Option.getD_some]
theorem pairs_f0 {l : List (Int × WR)} {th : List Bool} {lo hi : Nat} (h : There (f0 l) th) (h1 : lo < 10) (h2 : hi < 10) : pairsF (seeF noF (l.map w1M) 0) (kC lo) (kC hi) = upTo th lo hi 10 := by
  by_cases hl : l = []
  · subst hl
    have h3 := h.pairs h1 h2
    rw [← h3]
    simp [seeF, noF, f0, pairsF, namesF]
  · rw [f0_some l hl, h.pairs h1 h2]
theorem There.put {fs : Files} {th : List Bool} (h : There fs th) {k : Nat} (hk : k < 10) (del : Bool) : There (putW fs ⟨kC k, del, if del = true then [] else [118]⟩) (th.set k !del) := by
  refine ⟨by simp [h.len], nodup_put _ h.nd, fun q hq => ?_, fun x hx => ?_⟩
  · rw [getF_put h.nd]
    have hlen := h.len
    by_cases e : q = k
    · subst e
      rw [if_pos rfl]
      have : (th.set q !del).getD q false = !del := by simp [List.getD, hlen, hq]
      rw [this]
      cases del <;> rfl
    · have h3 : ¬ kC q = kC k := fun h => e (kC_inj hq hk h)
      rw [if_neg h3, h.get q hq]
      have : (th.set k !del).getD q false = th.getD q false := by
        simp only [List.getD, List.getElem?_set_ne fun e2 => e e2.symm]
      rw [this]
  · have hm : x.1 ∈ (putW fs ⟨kC k, del, if del = true then [] else [118]⟩).map (·.1) := List.mem_map.2 ⟨x, hx, rfl⟩
    unfold putW at hm
    split at hm
    · rw [keys_delF] at hm
      obtain ⟨y, hy, e⟩ := List.mem_map.1 (List.mem_of_mem_erase hm)
      rw [← e]; exact h.keys y hy
    · rw [keys_setF] at hm
      split at hm
      · obtain ⟨y, hy, e⟩ := List.mem_map.1 hm
        rw [← e]; exact h.keys y hy
      · rcases List.mem_append.1 hm with hm | hm
        · obtain ⟨y, hy, e⟩ := List.mem_map.1 hm
          rw [← e]; exact h.keys y hy
        · simp at hm; exact ⟨k, hk, hm⟩
theorem There.none : There (f0 []) (List.replicate 10 false) := by
  refine ⟨rfl, by simp [f0, seeF, noF], fun k hk => ?_, fun x hx => by simp [f0, seeF, noF] at hx⟩
  have : (List.replicate 10 false).getD k false = false := by
    have : ∀ k, k < 10 → (List.replicate 10 false).getD k false = false := by decide
    exact this k hk
  rw [this]; rfl
/-- A row that lacks one isn't the row. -/
theorem lacks {α : Type} {l : List α} {j : Nat} (h : j < l.length) : l ≠ l.take j ++ l.drop (j + 1) := by
  intro e
  have := congrArg List.length e
  simp at this
  omega
theorem put_bools {th : List Bool} {k : Nat} (b : Bool) (h : k < th.length) : (th.map DV.bool).take k ++ DV.bool b :: (th.map DV.bool).drop (k + 1) = (th.set k b).map DV.bool := by
  rw [List.set_eq_take_append_cons_drop, if_pos h]
  simp
end Go.Ab.Or
