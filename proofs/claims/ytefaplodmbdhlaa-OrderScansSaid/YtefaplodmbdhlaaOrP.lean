/- A part of the proofs that a law function returns true at every input; it has no condition of its own. -/
import Derived.Test.YtefaplodmbdhlaaOrO
set_option linter.unusedSimpArgs false
set_option linter.unusedVariables false
/- OrP: The order laws: what an order explains (the plain words). -/
namespace Go.Ab.Or
open Go Go.Conc Go.RowKit Go.Ab
set_option maxRecDepth 10000
abbrev MD := DC × List RD × List WR
def updF (F : Int → Option Files) (lv : Int) (ws : List WR) : Int → Option Files := fun l => if l = lv then some (ws.foldl putW ((F lv).getD [])) else F l
def explF : (Int → Option Files) → List MD → Bool
  | _, [] => true
  | F, (a, rs, ws) :: r => rs.all (fun x => decide (readF F x = x.pairs)) && explF (updF F a.lv ws) r
def seeF : (Int → Option Files) → List MD → (Int → Option Files)
  | F, [] => F
  | F, (a, _, ws) :: r => seeF (updF F a.lv ws) r
def noF : Int → Option Files := fun _ => none
/-- Files of so many entries at most. -/
def GoodF (n : Nat) (F : Int → Option Files) : Prop := ∀ l fs, F l = some fs → (fs.map (·.1)).Nodup ∧ fs.length ≤ n ∧ ∀ x ∈ fs, x.1.length ≤ maxLen
theorem GoodF.ok {n : Nat} {F : Int → Option Files} (h : GoodF n F) (hn : n < 100000) : ∀ l fs, F l = some fs → FOk fs := fun l fs e => ⟨(h l fs e).1, by have := (h l fs e).2.1; omega, (h l fs e).2.2⟩
theorem keys_setF (k v : Str) : ∀ fs : Files, (setF k v fs).map (·.1) = if k ∈ fs.map (·.1) then fs.map (·.1) else fs.map (·.1) ++ [k]
  | [] => by simp [setF]
  | (x, u) :: r => by
    have ih := keys_setF k v r
    by_cases h : k = x
    · subst h; simp [setF]
    · simp only [setF, h, if_false, List.map_cons, ih, List.mem_cons, false_or]
      split <;> simp
theorem keys_delF (k : Str) : ∀ fs : Files, (delF k fs).map (·.1) = (fs.map (·.1)).erase k
  | [] => by simp [delF]
  | (x, u) :: r => by
    have ih := keys_delF k r
    by_cases h : k = x
    · subst h; simp [delF]
    · have h2 : (x == k) = false := by simpa using fun e => h e.symm
      simp only [delF, h, if_false, List.map_cons, ih, List.erase_cons, h2]
      simp
theorem good_putW {n : Nat} {fs : Files} {w : WR} (h : (fs.map (·.1)).Nodup ∧ fs.length ≤ n ∧ ∀ x ∈ fs, x.1.length ≤ maxLen) (hw : w.key.length ≤ maxLen) : ((putW fs w).map (·.1)).Nodup ∧ (putW fs w).length ≤ n + 1 ∧ ∀ x ∈ putW fs w, x.1.length ≤ maxLen := by
  obtain ⟨h1, h2, h3⟩ := h
  have h3' : ∀ k ∈ fs.map (·.1), k.length ≤ maxLen := fun k hk => by obtain ⟨x, hx, rfl⟩ := List.mem_map.1 hk; exact h3 x hx
  have key : ∀ l : List Str, (∀ gs : Files, gs.map (·.1) = l → l.Nodup → l.length ≤ n + 1 → (∀ k ∈ l, k.length ≤ maxLen) → (gs.map (·.1)).Nodup ∧ gs.length ≤ n + 1 ∧ ∀ x ∈ gs, x.1.length ≤ maxLen) := by
    rintro l gs rfl a b c
    exact ⟨a, by simpa using b, fun x hx => c _ (List.mem_map.2 ⟨x, hx, rfl⟩)⟩
  unfold putW
  split
  · refine key _ _ (keys_delF _ _) (h1.erase _) ?_ fun k hk => h3' k (List.mem_of_mem_erase hk)
    have := List.length_erase_le (a := w.key) (l := fs.map (·.1))
    simp at this ⊢; omega
  · refine key _ _ (keys_setF _ _ _) ?_ ?_ ?_
    · split
      · exact h1
      · rename_i hk
        rw [List.nodup_append]
        exact ⟨h1, by simp, fun a ha b hb => by simp at hb; subst hb; intro e; subst e; exact hk ha⟩
    · split <;> simp <;> omega
    · split
      · exact h3'
      · intro k hk
        rcases List.mem_append.1 hk with hk | hk
        · exact h3' k hk
        · simp at hk; subst hk; exact hw
theorem good_fold {ws : List WR} : ∀ {n : Nat} {fs : Files}, ((fs.map (·.1)).Nodup ∧ fs.length ≤ n ∧ ∀ x ∈ fs, x.1.length ≤ maxLen) → (∀ w ∈ ws, w.key.length ≤ maxLen) → (((ws.foldl putW fs).map (·.1)).Nodup ∧ (ws.foldl putW fs).length ≤ n + ws.length ∧ ∀ x ∈ ws.foldl putW fs, x.1.length ≤ maxLen) := by
  induction ws with
  | nil => intro n fs h _; exact h
  | cons w ws ih =>
    intro n fs h hw
    have := ih (good_putW h (hw w (by simp))) fun x hx => hw x (List.mem_cons_of_mem _ hx)
    simp only [List.foldl_cons, List.length_cons]
    exact ⟨this.1, by omega, this.2.2⟩
theorem GoodF.upd {n : Nat} {F : Int → Option Files} {lv : Int} {ws : List WR} (h : GoodF n F) (hw : ∀ w ∈ ws, w.key.length ≤ maxLen) : GoodF (n + ws.length) (updF F lv ws) := by
  intro l fs e
  unfold updF at e
  split at e
  · cases e
    refine good_fold ?_ hw
    cases hf : F lv with
    | none => simp
    | some gs => exact h lv gs hf
  · have := h l fs e
    exact ⟨this.1, by omega, this.2.2⟩
theorem GoodF.no : GoodF 0 noF := fun l fs e => by cases e
theorem StAt.fr {n0 : Nat} {H H' : List HObj} {sid : Nat} {S : Sto} (h : StAt n0 H sid S) (f : Fr H H' []) : StAt n0 H' sid S := ⟨f.get h.top (by simp), fun x hx => f.get (h.files x hx) (by simp), h.nd, h.ns, h.lo⟩
theorem Fr.frB {H H' : List HObj} (h : Fr H H' []) {n : Nat} (hn : n ≤ H.length) : FrB n H H' := ⟨h.1, fun j hj => h.2 j (by omega) (by simp)⟩
theorem readF_len (F : Int → Option Files) (r : RD) : (readF F r).length < 4611686018427387904 := by
  unfold readF
  split
  · have := List.length_take_le 64 (pairsF (F r.lv) r.fr r.to); omega
  · split <;> simp
def wsum : List MD → Nat
  | [] => 0
  | x :: r => x.2.2.length + wsum r
/-- Deals as a row shows them. -/
structure DealsV (H : List HObj) (v : DV) (ds : List MD) : Prop where
  row : RowV H 5 v (ds.map fun x => x.1.cells)
  dw : ∀ x ∈ ds, DW H x.1 x.2.1 x.2.2
  len : ds.length < 4611686018427387904
  sum : wsum ds < 100000
  keys : ∀ x ∈ ds, ∀ w ∈ x.2.2, w.key.length ≤ maxLen
theorem DealsV.fr {H H' : List HObj} {v : DV} {ds : List MD} (h : DealsV H v ds) (f : Fr H H' []) : DealsV H' v ds := ⟨h.row.fr f, fun x hx => (h.dw x hx).fr f, h.len, h.sum, h.keys⟩
theorem box57 {B : List (Nat × Nat × List DV)} {s s2 : Nat} (h : B = [] ∨ (∃ g c, B = [(s, g, c)]) ∨ ∃ g c g2 c2, B = [(s, g, c), (s2, g2, c2)]) : ∃ g T, bgen s B = g ∧ (∀ cs, bset s g cs B = (s, g, cs) :: T) ∧ (T = [] ∨ ∃ g2 c2, T = [(s2, g2, c2)]) := by
  rcases h with rfl | ⟨g, c, rfl⟩ | ⟨g, c, g2, c2, rfl⟩
  · exact ⟨0, [], rfl, fun _ => rfl, .inl rfl⟩
  · exact ⟨g + 1, [], by simp [bgen, bget], fun _ => by simp [bset], .inl rfl⟩
  · exact ⟨g + 1, _, by simp [bgen, bget], fun _ => by simp [bset], .inr ⟨g2, c2, rfl⟩⟩
theorem box7 {T : List (Nat × Nat × List DV)} {s s2 g : Nat} {cs : List DV} (hn : s ≠ s2) (h : T = [] ∨ ∃ g2 c2, T = [(s2, g2, c2)]) : ∃ g2, bgen s2 ((s, g, cs) :: T) = g2 ∧ ∀ c2, bset s2 g2 c2 ((s, g, cs) :: T) = [(s, g, cs), (s2, g2, c2)] := by
  have hn' : ¬ s2 = s := fun e => hn e.symm
  have hn2 : ¬ s = s2 := hn
  rcases h with rfl | ⟨g2, c2, rfl⟩
  · exact ⟨0, by simp [bgen, bget, hn, hn'], fun _ => by simp [bset, hn, hn']⟩
  · exact ⟨g2 + 1, by simp [bgen, bget, hn, hn'], fun _ => by simp [bset, hn, hn']⟩
end Go.Ab.Or
