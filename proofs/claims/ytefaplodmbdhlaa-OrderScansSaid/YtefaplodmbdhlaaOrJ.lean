/- A part of the proofs that a law function returns true at every input; it has no condition of its own. -/
import Derived.Test.YtefaplodmbdhlaaOrI
set_option linter.unusedSimpArgs false
set_option linter.unusedVariables false
/- OrJ: The order laws: the store of levels and files, what writes do to it. -/
namespace Go.Ab.Or
open Go Go.Conc Go.RowKit Go.Ab
set_option maxRecDepth 10000
abbrev Sto := List (Int × Nat × Files)
def topS (S : Sto) : List (DV × DV) := S.map fun x => (.int .i64 x.1, .map x.2.1)
def idS (l : Int) : Sto → Option (Nat × Files)
  | [] => none
  | (x, y) :: r => if l = x then some y else idS l r
def filesS (S : Sto) (l : Int) : Option Files := (idS l S).map (·.2)
def setS (l : Int) (fs : Files) : Sto → Sto
  | [] => []
  | (x, i, u) :: r => if l = x then (x, i, fs) :: r else (x, i, u) :: setS l fs r
theorem find_top (l : Int) : ∀ S, findKeyD (.int .i64 l) (topS S) = some ((idS l S).map fun y => .map y.1)
  | [] => rfl
  | (x, y) :: r => by
    have := find_top l r
    simp only [topS, List.map_cons, findKeyD, keyEq, idS, if_true] at this ⊢
    by_cases h : l = x
    · simp [h]
    · simp [h]; assumption
theorem all_top (l : Int) (S : Sto) : ((topS S).all fun e => (keyEq (.int .i64 l) e.1).isSome) = true := by
  simp [topS, List.all_eq_true, keyEq]
theorem set_top (l : Int) (id : Nat) : ∀ S, idS l S = none → mapSet (.int .i64 l) (.map id) (topS S) = topS (S ++ [(l, id, [])])
  | [], _ => rfl
  | (x, y) :: r, h => by
    simp only [idS] at h
    split at h
    · cases h
    · rename_i hx
      have := set_top l id r h
      simp only [topS, List.cons_append, List.map_cons, mapSet, keyEq, if_true] at this ⊢
      simp [hx]; simpa using this
theorem top_setS (l : Int) (fs : Files) : ∀ S, topS (setS l fs S) = topS S
  | [] => rfl
  | (x, i, u) :: r => by
    have := top_setS l fs r
    simp only [topS, setS] at this ⊢
    split <;> simp; assumption
theorem idS_mem {l : Int} {y : Nat × Files} : ∀ {S : Sto}, idS l S = some y → (l, y) ∈ S
  | (x, z) :: r, h => by
    simp only [idS] at h
    split at h
    · rename_i e; cases h; subst e; simp
    · exact List.mem_cons_of_mem _ (idS_mem h)
theorem idS_app {l k : Int} {y : Nat × Files} : ∀ {S : Sto}, idS k S = none → idS l (S ++ [(k, y)]) = if l = k then some y else idS l S
  | [], _ => by simp [idS]
  | (x, z) :: r, h => by
    simp only [idS] at h
    split at h
    · cases h
    · rename_i hx
      simp only [List.cons_append, idS, idS_app h]
      by_cases e : l = x
      · subst e
        have : ¬ l = k := fun e => hx e.symm
        simp [this]
      · simp [e]
theorem idS_setS {l k : Int} {fs : Files} : ∀ {S : Sto}, (idS l (setS k fs S)) = if l = k then (idS l S).map fun y => (y.1, fs) else idS l S
  | [] => by simp [setS, idS]
  | (x, i, u) :: r => by
    have ih := idS_setS (l := l) (k := k) (fs := fs) (S := r)
    by_cases h : k = x
    · subst h
      simp only [setS, if_true, idS]
      by_cases e : l = k <;> simp [e]
    · simp only [setS, h, if_false, idS, ih]
      by_cases e : l = x
      · have : ¬ x = k := fun e => h e.symm
        simp [e, this]
      · simp [e]
structure StAt (n0 : Nat) (H : List HObj) (sid : Nat) (S : Sto) : Prop where
  top : H[sid]? = some (.map (topS S))
  files : ∀ x ∈ S, H[x.2.1]? = some (.map (enc x.2.2))
  nd : (S.map fun x => x.2.1).Nodup
  ns : sid ∉ S.map fun x => x.2.1
  lo : n0 ≤ sid ∧ ∀ x ∈ S, n0 ≤ x.2.1
/-- Nothing below n0 has turned. -/
def FrB (n0 : Nat) (H H' : List HObj) : Prop := H.length ≤ H'.length ∧ ∀ j, j < n0 → H'[j]? = H[j]?
theorem FrB.refl (n0 : Nat) (H : List HObj) : FrB n0 H H := ⟨Nat.le_refl _, fun _ _ => rfl⟩
theorem FrB.trans {n0 : Nat} {H H' H'' : List HObj} (h : FrB n0 H H') (k : FrB n0 H' H'') : FrB n0 H H'' := ⟨Nat.le_trans h.1 k.1, fun j hj => (k.2 j hj).trans (h.2 j hj)⟩
theorem FrB.set {n0 : Nat} {H : List HObj} {i : Nat} (x : HObj) (h : n0 ≤ i) : FrB n0 H (H.set i x) := ⟨by simp, fun j hj => hset_ne (by omega)⟩
theorem FrB.app {n0 : Nat} {H : List HObj} (l : List HObj) (h : n0 ≤ H.length) : FrB n0 H (H ++ l) := ⟨by simp, fun j hj => by rw [List.getElem?_append_left (by omega)]⟩
theorem FrB.fr {H H' : List HObj} (h : FrB H.length H H') : Fr H H' [] := ⟨h.1, fun j hj _ => h.2 j hj⟩
theorem StAt.new {n0 : Nat} {H : List HObj} {sid : Nat} {S : Sto} {l : Int} (h : StAt n0 H sid S) (hn : idS l S = none) (hl : n0 ≤ H.length) :
    StAt n0 ((H ++ [HObj.map []]).set sid (HObj.map (topS (S ++ [(l, H.length, [])])))) sid (S ++ [(l, H.length, [])]) := by
  have hs : sid < H.length := (List.getElem?_eq_some_iff.1 h.top).1
  have hlt : ∀ x ∈ S, x.2.1 < H.length := fun x hx => (List.getElem?_eq_some_iff.1 (h.files x hx)).1
  have hne : ∀ x ∈ S, sid ≠ x.2.1 := fun x hx e => h.ns (List.mem_map.2 ⟨x, hx, e.symm⟩)
  refine ⟨hset (by simp; omega), fun x hx => ?_, ?_, ?_, h.lo.1, fun x hx => ?_⟩
  · rcases List.mem_append.1 hx with hx | hx
    · rw [hset_ne (hne x hx), List.getElem?_append_left (hlt x hx)]; exact h.files x hx
    · simp only [List.mem_singleton] at hx; subst hx
      rw [hset_ne (by dsimp; omega)]; simp [enc]
  · rw [List.map_append, List.nodup_append]
    refine ⟨h.nd, by simp, fun a ha b hb => ?_⟩
    obtain ⟨x, hx, rfl⟩ := List.mem_map.1 ha
    simp at hb; subst hb
    have := hlt x hx; omega
  · simp only [List.map_append, List.mem_append, not_or]
    exact ⟨h.ns, by simp; omega⟩
  · rcases List.mem_append.1 hx with hx | hx
    · exact h.lo.2 x hx
    · simp only [List.mem_singleton] at hx; subst hx; exact hl
theorem mem_setS {l : Int} {fs : Files} {y : Nat × Files} : ∀ {S : Sto}, (S.map fun x => x.2.1).Nodup → idS l S = some y → ∀ x ∈ setS l fs S, x = (l, y.1, fs) ∨ (x ∈ S ∧ x.2.1 ≠ y.1)
  | (x, i, u) :: r, hn, h, z, hz => by
    simp only [List.map_cons, List.nodup_cons] at hn
    simp only [idS] at h
    simp only [setS] at hz
    split at h
    · rename_i e
      cases h
      subst e
      simp only [if_true, List.mem_cons] at hz
      rcases hz with rfl | hz
      · exact .inl rfl
      · exact .inr ⟨List.mem_cons_of_mem _ hz, fun e => hn.1 (List.mem_map.2 ⟨z, hz, e⟩)⟩
    · rename_i e
      rw [if_neg e] at hz
      rcases List.mem_cons.1 hz with rfl | hz
      · exact .inr ⟨by simp, fun e2 => hn.1 (List.mem_map.2 ⟨_, idS_mem h, e2.symm⟩)⟩
      · rcases mem_setS hn.2 h z hz with e | ⟨e1, e2⟩
        · exact .inl e
        · exact .inr ⟨List.mem_cons_of_mem _ e1, e2⟩
theorem ids_setS {l : Int} {fs : Files} : ∀ {S : Sto}, (setS l fs S).map (fun x => x.2.1) = S.map fun x => x.2.1
  | [] => rfl
  | (x, i, u) :: r => by
    have := ids_setS (l := l) (fs := fs) (S := r)
    simp only [setS]
    split <;> simp; assumption
theorem StAt.upd {n0 : Nat} {H : List HObj} {sid : Nat} {S : Sto} {l : Int} {i : Nat} {f0 : Files} (fs : Files) (h : StAt n0 H sid S) (hi : idS l S = some (i, f0)) : StAt n0 (H.set i (.map (enc fs))) sid (setS l fs S) := by
  have hm := idS_mem hi
  have hlt : i < H.length := (List.getElem?_eq_some_iff.1 (h.files _ hm)).1
  have hne : i ≠ sid := fun e => h.ns (List.mem_map.2 ⟨_, hm, e⟩)
  refine ⟨by rw [hset_ne hne, top_setS]; exact h.top, fun x hx => ?_, by rw [ids_setS]; exact h.nd, by rw [ids_setS]; exact h.ns, h.lo.1, fun x hx => ?_⟩
  · rcases mem_setS h.nd hi x hx with rfl | ⟨hx, hn⟩
    · exact hset hlt
    · rw [hset_ne fun e => hn e.symm]; exact h.files x hx
  · rcases mem_setS h.nd hi x hx with rfl | ⟨hx, hn⟩
    · have := h.lo.2 _ hm; exact this
    · exact h.lo.2 x hx
def putW (fs : Files) (w : WR) : Files := if w.del then delF w.key fs else setF w.key w.val fs
end Go.Ab.Or
